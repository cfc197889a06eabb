/- The nonces of 500 numbers in lanes: the root over a nonce and the next one is not the root over the nonce twice. No conditions, no program in sight. -/
import Derived.Test.YtamdgjgommejjaaGreatDVU
import Derived.KernelRfl
namespace Go.Proofs.YtamdgjgommejjaaGreat.V
open Go
def nonV (M O v : Nat) : Bool :=
  seedW M O (Nat.add v (Nat.mul 0 O)) fun S0 => leafW M O S0 fun L0 => seedW M O (Nat.add v (Nat.mul 1 O)) fun S1 => leafW M O S1 fun L1 =>
    nodeW M O L0 L1 fun A => nodeW M O L0 L0 fun B => neqV M O B.a0 A.a0
def runN (n : Nat) : Bool := (fun O => seqN O ((fun M v => seqN M (seqN v (nonV M O v))) (Nat.mul O 4294967295) (numV O 0 1 n))) (oneV n)
theorem runN_500 : runN 500 = true := by kernel_rfl
theorem non_ne (v : Nat) (hv : v < 500) : nodeH (leafH (seedB v)) (leafH (seedB v)) ≠ nodeH (leafH (seedB v)) (leafH (seedB (v + 1))) := by
  have h := runN_500
  have hp : pack (fun i => 0 + 1 * i) 500 = pack (fun i => i % 65536) 500 := pack_congr _ _ _ fun i hi => by omega
  have hb : ∀ (j : Nat), j < 7 → ∀ i : Nat, i % 65536 + j < 4294967296 := fun j hj i => by have := Nat.mod_lt i (show 0 < 65536 by decide); omega
  unfold runN at h
  dsimp only at h
  rw [seqN_eq, oneV_eq, seqN_eq, seqN_eq, numV_eq, ← msk_of, hp] at h
  unfold nonV at h
  simp only [add_lanes] at h
  rw [seedW_eq 500 (fun i => i % 65536 + 0) (hb 0 (by decide)), leafW_eq 500 _ (fun i => seedB_l _), seedW_eq 500 (fun i => i % 65536 + 1) (hb 1 (by decide)), leafW_eq 500 _ (fun i => seedB_l _), nodeW_eq 500 _ _ (fun i => leafH_l _) (fun i => leafH_l _), nodeW_eq 500 _ _ (fun i => leafH_l _) (fun i => leafH_l _)] at h
  have h2 := neq_lane 500 _ _ h v hv
  simp only [Nat.mod_eq_of_lt (show v < 65536 by omega), Nat.add_zero] at h2
  exact h2
end Go.Proofs.YtamdgjgommejjaaGreat.V

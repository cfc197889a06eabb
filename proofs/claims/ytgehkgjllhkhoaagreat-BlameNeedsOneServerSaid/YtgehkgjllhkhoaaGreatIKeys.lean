/- Contracts that a law leans on, and its walk. Conditions: those of each theorem. -/
import Derived.Test.YtgehkgjllhkhoaaGreatIVecA
import Derived.Test.YtgehkgjllhkhoaaGreatIVecB
import Derived.Test.YtgehkgjllhkhoaaGreatIKChain3
import Derived.Test.YtgehkgjllhkhoaaGreatIHonK
namespace Go.Proofs.YtgehkgjllhkhoaaGreat
open Go Go.RowKit
set_option linter.unusedVariables false
theorem keyTabs : (List.range 1000).all (fun v => !(Nat.beq (V.keyAH v) (V.keyBH v))) = true := by kernel_rfl
theorem keyTab (v : Nat) (h : v < 1000) : V.keyAH v ≠ V.keyBH v := by
 have := List.all_eq_true.1 keyTabs v (List.mem_range.2 h)
 intro e
 rw [e, Nat.beq_refl] at this
 cases this
theorem seedW_at (x : Int) (y : Nat) : ∃ v : Nat, v < 1000 ∧ x % 1000 = v ∧ seedW x (y : Int) = randK ((100 + y + 10 * v : Nat) : Int) 32 := by
 have h0 := Int.emod_nonneg x (show (1000 : Int) ≠ 0 by omega)
 have h1 := Int.emod_lt_of_pos x (show (0 : Int) < 1000 by omega)
 refine ⟨(x % 1000).toNat, by omega, by omega, ?_⟩
 unfold seedW
 congr 1
 omega
theorem seedW_len (x y : Int) : (seedW x y).length = 32 := randK_len _ 32 (by omega)
theorem keys_differ (x : Int) : pubG (seedW x 0) 1 ≠ pubG (seedW x 1) 1 := by
 obtain ⟨v, hv, hx, h0⟩ := seedW_at x 0
 obtain ⟨v', hv', hx', h1⟩ := seedW_at x 1
 obtain rfl : v = v' := by omega
 have e0 : pubG (seedW x 0) 1 = keyG (seedW x 0) 1 := pubG_key _ 1 (seedW_len x 0) (by omega)
 have e1 : pubG (seedW x 1) 1 = keyG (seedW x 1) 1 := pubG_key _ 1 (seedW_len x 1) (by omega)
 intro h
 rw [e0, e1] at h
 have a := V.keyA_at v hv
 have b := V.keyB_at v hv
 refine keyTab v hv ?_
 rw [← a, ← b]
 have h0' : seedW x 0 = randK ((100 + 10 * v : Nat) : Int) 32 := h0
 have h1' : seedW x 1 = randK ((101 + 10 * v : Nat) : Int) 32 := h1
 rw [← h0', ← h1', h]
end Go.Proofs.YtgehkgjllhkhoaaGreat

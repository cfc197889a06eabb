/- Contract of sectimeref09.Same at two equal signers: true. Conditions: that the seeds are seen. Contract of signer.Sign and sectimeref09.Sign at any signer: what signAll says. Conditions: a message of at most 65535 bytes, the seed and the message seen. Contract of sectimeworld.Within: v modulo m, from 0 on. Conditions: m from 1 to 2^32. What the walk is told of a signer that came in. Conditions: that the argument reads as data. The walk of the statement SignerActs: true. No conditions. -/
import Derived.Test.YtdfnandhdgbgeaaTower13
import Derived.Test.YtdfnandhdgbgeaaTower3
namespace Go.Proofs.Ytdfnandhdgbgeaa
open Go.RowKit
set_option linter.unusedVariables false
attribute [local go_sem ↓] Go.wp_at_zero Go.wp_at_succ
end Go.Proofs.Ytdfnandhdgbgeaa
namespace Go.Proofs.Ytdfnandhdgbgeaa
open Go.RowKit
set_option linter.unusedVariables false
/-- seed, height, next, signature, error -/
def signAll (seed : Bs) (h n : Int) (m : Bs) : Bs × Int × Int × Bs × Int :=
  if validI seed h n = true then
    if n = 2 ^ h.toNat then ([], 0, 0, [], 7)
    else (seed, h, n + 1, sigG seed h.toNat n.toNat m, 0)
  else ([], 0, 0, [], 3)
def SignPost (r : Bs × Int × Int × Bs × Int) (w : World) (e : Ending) (w' : World) : Prop :=
  ∃ v v2, e = .returned (.tuple #[.agg #[v, .int .i64 r.2.1, .int .i64 r.2.2.1], v2, .int .i64 r.2.2.2.2]) ∧ SeesB w' w'.heap.size v r.1 ∧ SeesB w' w'.heap.size v2 r.2.2.2.1 ∧ Below w.heap.size w w'
theorem signBad_post {c : Int} {w w' : World} {e : Ending} (h : SignBad c w e w') : SignPost ([], 0, 0, [], c) w e w' :=
  ⟨_, _, h.1, SeesB.nil _ _, SeesB.nil _ _, h.2⟩
theorem signOk_post {seed m : Bs} {h i : Nat} {w w' : World} {e : Ending} (hs : SignOk seed h i m w e w') : SignPost (seed, (h : Int), (i : Int) + 1, sigG seed h i m, 0) w e w' := by
  obtain ⟨v, v2, h1, h2, h3, h4⟩ := hs
  exact ⟨v, v2, by rw [h1]; simp, h2, h3, h4⟩
end Go.Proofs.Ytdfnandhdgbgeaa
namespace Go.Proofs.Ytdfnandhdgbgeaa
open Go.RowKit
set_option linter.unusedVariables false
attribute [local go_sem ↓] Go.wp_at_zero Go.wp_at_succ
end Go.Proofs.Ytdfnandhdgbgeaa
namespace Go.Proofs.Ytdfnandhdgbgeaa
open Go.ChangeShapes Go.WideShapes Go.ChangeAt Go.RowKit
section
variable {H : Type} {enc : TypeId × Value → H} {w : World} {base : Nat} {r : Reach} {v : Value} {d : DataW H} {ps : List MemPlace}
set_option maxRecDepth 100000 in
theorem open_bytesF {n : Nat} {y : DataW H × List MemPlace} (hf : DataW.trod enc Try.prog w 0 (fun _ => true) true n 22 [v] = some y) : ∃ l : Bs, SeesB w w.heap.size v l := by
  obtain ⟨y1, y2⟩ := y
  rcases open_ints Try.underlying22 Try.underlying5 cells_uint8 hf with ⟨hcs, hx⟩ | ⟨a, len', cap', zs, hcs, _, hl, hm, hz, hx, hcell, hwz⟩
  · simp at hcs
    subst hcs
    exact ⟨[], SeesB.nil _ _⟩
  · simp at hcs
    subst hcs
    simp only [if_true] at hz
    have hlen : ((zs.take len').map fun n => UInt8.ofNat n.toNat).length = len' := by simp; omega
    refine ⟨(zs.take len').map fun n => UInt8.ofNat n.toNat, ?_⟩
    unfold SeesB
    rw [hlen]
    refine ⟨by rw [vb_len, hlen, Nat.mul_one], some a, cap', rfl, hl, hm, fun h0 => ?_⟩
    obtain ⟨b, off, spot⟩ := a
    have hc := hcell 0 (by omega)
    have hspot : spot = none := by simpa [Addr.add] using World.cell?_spot hc
    subst hspot
    refine ⟨b, off, rfl, ?_, fun j u hj => ?_⟩
    · rcases Nat.lt_or_ge b w.heap.size with h1 | h1
      · exact h1
      · exfalso
        have h0 : w.heap[b]? = none := Array.getElem?_eq_none h1
        unfold World.cell? at hc
        rw [add_zero'] at hc
        simp only [h0] at hc
        simp at hc
    · rw [vb_get] at hj
      obtain ⟨x, hx, rfl⟩ := Option.map_eq_some_iff.1 hj
      rw [List.getElem?_map] at hx
      obtain ⟨n, hn, rfl⟩ := Option.map_eq_some_iff.1 hx
      have hj2 : j < len' := by
        have := (List.getElem?_eq_some_iff.1 hn).1
        rw [List.length_take] at this; omega
      rw [List.getElem?_take, if_pos hj2] at hn
      have hc := hcell j (by omega)
      have hw := hwz n (List.mem_of_getElem? hn)
      rw [add_zero', List.getD_eq_getElem?_getD, hn, Option.getD_some] at hc
      have hb := bounds_u8 hw
      rw [hc, byte_of n hb.1 (by omega)]
end
end Go.Proofs.Ytdfnandhdgbgeaa
namespace Go.Proofs.Ytdfnandhdgbgeaa
open Go.RowKit
set_option linter.unusedVariables false
attribute [local go_sem ↓] Go.wp_at_zero Go.wp_at_succ
end Go.Proofs.Ytdfnandhdgbgeaa

/- What a law leans on beyond the base: contracts, plain functions, walks. Conditions: those of each theorem. -/
import Derived.RangeFuncCalls
import Derived.Shelf.RegionOpen
import Derived.Sort.CutIn
import Derived.Test.YtjgepckncogdaaaGreatQCVerL
set_option linter.unusedVariables false
set_option linter.unusedSimpArgs false
namespace Go.Proofs.YtjgepckncogdaaaGreat
open Go Go.RowKit Go.Shelf
set_option linter.unusedVariables false
attribute [local go_sem ↓] Go.wp_at_zero Go.wp_at_succ
attribute [local go_sem] Oper.semAt_some
def K2 (n₀ Bx : Nat) (X Y : World) : Prop := Below n₀ X Y ∧ (Bx < X.heap.size → Y.heap[Bx]? = X.heap[Bx]?)
theorem K2.trans {n₀ Bx : Nat} {X Y Z : World} (h : K2 n₀ Bx X Y) (k : K2 n₀ Bx Y Z) : K2 n₀ Bx X Z := ⟨h.1.trans k.1, fun hb => (k.2 (Nat.lt_of_lt_of_le hb h.1.size)).trans (h.2 hb)⟩
theorem K2.cell {n₀ Bx : Nat} {X Y : World} {v : Value} (h : K2 n₀ Bx X Y) (hc : X.cell? ⟨Bx, 0, none⟩ = some v) (hb : Bx < X.heap.size) : Y.cell? ⟨Bx, 0, none⟩ = some v := (World.cell?_of_block (a := ⟨Bx, 0, none⟩) (h.2 hb)).trans hc
def spanC2 (vs : List (Int × Int)) : List Value := vs.flatMap fun v => [.int .i64 v.1, .int .i64 v.2]
theorem spanC2_sees {w : World} {B n : Nat} {v : Value} {vs : List (Int × Int)} (h : SeesR w B v 2 n (spanS vs)) : Sees w B v 2 n (spanC2 vs) := by
 obtain ⟨h0, us, hs, hu⟩ := h
 have e : us = spanC2 vs := by
  have em : (spanC2 vs).map Spec.val = spanS vs := by simp [spanC2, spanS, List.map_flatMap]
  apply List.ext_getElem?
  intro j
  by_cases hj : j < (spanS vs).length
  · obtain ⟨u, e1, e2⟩ := hu j _ (List.getElem?_eq_getElem hj)
    have h2 : ((spanC2 vs).map Spec.val)[j]? = some (spanS vs)[j] := by rw [em]; exact List.getElem?_eq_getElem hj
    rw [List.getElem?_map] at h2
    cases hc : (spanC2 vs)[j]? with
    | none => rw [hc] at h2; cases h2
    | some y =>
      rw [hc] at h2
      have h3 : Spec.val y = (spanS vs)[j] := Option.some.inj h2
      rw [← h3] at e2
      rw [e1, e2.1]
  · have hl : (spanC2 vs).length = (spanS vs).length := by rw [← em, List.length_map]
    rw [List.getElem?_eq_none (by rw [hs.len, ← h0]; omega), List.getElem?_eq_none (by omega)]
 rw [← e]
 exact hs
end Go.Proofs.YtjgepckncogdaaaGreat

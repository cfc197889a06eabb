/- What the walk is told of arguments []int and []api.Span. Conditions: that the argument reads as data. -/
import Derived.Test.YtiiaghmdajdbbaaQX
import Derived.WalkKit
import Derived.ProofKit
import Derived.OpenShut
import Derived.Deep.SlicePairs
namespace Go.Proofs.Ytiiaghmdajdbbaa
open Go.ChangeShapes Go.WideShapes Go.ChangeAt Go.RowKit
section
variable {H : Type} {enc : TypeId × Value → H} {w : World} {base : Nat} {r : Reach} {v : Value} {d : DataW H} {ps : List MemPlace}
theorem cells_intI : Try.prog.cellsOf 3 = 1 := by kernel_rfl
set_option maxRecDepth 100000 in
theorem open_intsT (hval : Value.okWide Try.prog w r base 22 v) (h : DataW.Trod enc Try.prog w 0 (fun _ => true) true 22 v d ps) : ∃ l : List Int, SeesT w w.heap.size v l := by
  obtain ⟨a0, len, cap, rfl⟩ := okWide_slice Try.underlying22 hval
  obtain ⟨fuel, hf⟩ := h
  rcases open_ints Try.underlying22 Try.underlying3 cells_intI hf with ⟨hcs, hx⟩ | ⟨a, len', cap', zs, hcs, _, hl, hm, hz, hx, hcell, hwz⟩
  · simp [Value.cells] at hcs
    obtain ⟨rfl, rfl, rfl⟩ := hcs
    exact ⟨[], Sees.nil _ _ _⟩
  · simp [Value.cells] at hcs
    obtain ⟨rfl, rfl, rfl⟩ := hcs
    simp only [if_true] at hz
    have hlen : (zs.take len).length = len := by simp; omega
    refine ⟨zs.take len, ?_⟩
    unfold SeesT
    rw [hlen]
    refine ⟨by rw [List.length_map, hlen, Nat.mul_one], some a, cap, rfl, hl, hm, fun h0 => ?_⟩
    obtain ⟨b, off, spot⟩ := a
    have hc := hcell 0 (by omega)
    have hspot : spot = none := by simpa [Addr.add] using World.cell?_spot hc
    subst hspot
    refine ⟨b, off, rfl, ?_, fun j u hj => ?_⟩
    · rcases Nat.lt_or_ge b w.heap.size with h1 | h1
      · exact h1
      · exfalso
        have h0 : w.heap[b]? = none := Array.getElem?_eq_none h1
        unfold World.cell? at hc
        rw [add_zero'] at hc
        simp only [h0] at hc
        simp at hc
    · rw [List.getElem?_map] at hj
      obtain ⟨n, hn, rfl⟩ := Option.map_eq_some_iff.1 hj
      have hj2 : j < len := by
        have := (List.getElem?_eq_some_iff.1 hn).1
        rw [List.length_take] at this; omega
      rw [List.getElem?_take, if_pos hj2] at hn
      have hc := hcell j (by omega)
      rw [add_zero', List.getD_eq_getElem?_getD, hn, Option.getD_some] at hc
      rw [hc]
theorem cells_spanQ : Try.prog.cellsOf 28 = 2 := by kernel_rfl
set_option maxRecDepth 100000 in
theorem open_spans (hval : Value.okWide Try.prog w r base 24 v) (h : DataW.Trod enc Try.prog w 0 (fun _ => true) true 24 v d ps) : ∃ l : List Sp, SeesS w w.heap.size v l := by
  obtain ⟨a0, len, cap, rfl⟩ := okWide_slice Try.underlying24 hval
  obtain ⟨fuel, hf⟩ := h
  rcases Go.Deep.open_slice_pairs Try.underlying24 Try.underlying28 cells_spanQ rfl rfl cells_intI cells_intI hf with ⟨hcs, hx⟩ | ⟨a, len', cap', m, n, V0, V1, D0, D1, P0, P1, hcs, _, hl, hm, hmm, hx, hcell⟩
  · simp [Value.cells] at hcs
    obtain ⟨rfl, rfl, rfl⟩ := hcs
    exact ⟨[], Sees.nil _ _ _⟩
  · simp [Value.cells] at hcs
    obtain ⟨rfl, rfl, rfl⟩ := hcs
    simp only [if_true] at hmm
    subst hmm
    have each : ∀ i, i < len → ∃ p : Int × Int, w.cell? (a.add (i * 2)) = some (.int .i64 p.1) ∧ w.cell? (a.add (i * 2 + 1)) = some (.int .i64 p.2) := fun i hi => by
      obtain ⟨h1, h2, h3, h4⟩ := hcell i (by omega)
      obtain ⟨x, e0, -, -⟩ := DataW.trod_int Try.underlying3 h3
      obtain ⟨y, e1, -, -⟩ := DataW.trod_int Try.underlying3 h4
      simp at e0 e1
      exact ⟨(x, y), by rw [h1, e0], by rw [h2, e1]⟩
    obtain ⟨q, hq⟩ := Go.Deep.choose_lt each
    refine ⟨(List.range len).map q, ?_⟩
    have hlen : ((List.range len).map q).length = len := by simp
    unfold SeesS
    rw [hlen]
    refine ⟨by rw [spV_len, hlen], some a, _, rfl, hl, hm, fun h0 => ?_⟩
    obtain ⟨b, off, spot⟩ := a
    have hc := (hq 0 h0).1
    have hspot : spot = none := by simpa [Addr.add] using World.cell?_spot hc
    subst hspot
    refine ⟨b, off, rfl, ?_, fun j u hj => ?_⟩
    · rcases Nat.lt_or_ge b w.heap.size with h1 | h1
      · exact h1
      · exfalso
        have h0 : w.heap[b]? = none := Array.getElem?_eq_none h1
        unfold World.cell? at hc
        rw [add_zero'] at hc
        simp only [h0] at hc
        simp at hc
    · have hjl : j < len * 2 := by
        have := (List.getElem?_eq_some_iff.1 hj).1
        rw [spV_len, hlen] at this; exact this
      have hg := spV_get ((List.range len).map q) (j / 2) (q (j / 2)) (by rw [List.getElem?_map, List.getElem?_range (by omega)]; rfl)
      obtain ⟨c0, c1⟩ := hq (j / 2) (by omega)
      rw [add_zero'] at c0 c1
      rcases Nat.mod_two_eq_zero_or_one j with h | h
      · have e : j / 2 * 2 = j := by omega
        rw [e] at hg c0
        rw [hg.1] at hj
        cases hj
        exact c0
      · have e : j / 2 * 2 + 1 = j := by omega
        rw [e] at hg c1
        rw [hg.2] at hj
        cases hj
        exact c1
end
end Go.Proofs.Ytiiaghmdajdbbaa

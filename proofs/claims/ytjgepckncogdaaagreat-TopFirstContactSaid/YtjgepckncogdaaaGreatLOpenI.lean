/- What a law leans on beyond the base: contracts, plain functions, walks. Conditions: those of each theorem. -/
import Derived.Test.YtjgepckncogdaaaGreatQTape
set_option linter.unusedVariables false
set_option linter.unusedSimpArgs false
namespace Go.Proofs.YtjgepckncogdaaaGreat
open Go.ChangeShapes Go.WideShapes Go.ChangeAt Go.RowKit
section
variable {H : Type} {enc : TypeId × Value → H} {w : World} {base : Nat} {r : Reach} {v : Value} {d : DataW H} {ps : List MemPlace}
theorem cells_intI : Tryz.prog.cellsOf 3 = 1 := by kernel_rfl
set_option maxRecDepth 100000 in
theorem open_intsT (hval : Value.okWide Tryz.prog w r base 55 v) (h : DataW.Trod enc Tryz.prog w 0 (fun _ => true) true 55 v d ps) : ∃ l : List Int, SeesT w w.heap.size v l := by
 obtain ⟨a0, len, cap, rfl⟩ := okWide_slice Tryz.underlying55 hval
 obtain ⟨fuel, hf⟩ := h
 rcases open_ints Tryz.underlying55 Tryz.underlying3 cells_intI hf with ⟨hcs, hx⟩ | ⟨a, len', cap', zs, hcs, _, hl, hm, hz, hx, hcell, hwz⟩
 · simp [Value.cells] at hcs
   obtain ⟨rfl, rfl, rfl⟩ := hcs
   exact ⟨[], Sees.nil _ _ _⟩
 · simp [Value.cells] at hcs
   obtain ⟨rfl, rfl, rfl⟩ := hcs
   simp only [if_true] at hz
   have hlen : (zs.take len).length = len := by simp; omega
   refine ⟨zs.take len, ?_⟩
   unfold SeesT
   rw [hlen]
   refine ⟨by rw [List.length_map, hlen, Nat.mul_one], some a, cap, rfl, hl, hm, fun h0 => ?_⟩
   obtain ⟨b, off, spot⟩ := a
   have hc := hcell 0 (by omega)
   have hspot : spot = none := by simpa [Addr.add] using World.cell?_spot hc
   subst hspot
   refine ⟨b, off, rfl, ?_, fun j u hj => ?_⟩
   · rcases Nat.lt_or_ge b w.heap.size with h1 | h1
     · exact h1
     · exfalso
       have h0 : w.heap[b]? = none := Array.getElem?_eq_none h1
       unfold World.cell? at hc
       rw [add_zero'] at hc
       simp only [h0] at hc
       simp at hc
   · rw [List.getElem?_map] at hj
     obtain ⟨n, hn, rfl⟩ := Option.map_eq_some_iff.1 hj
     have hj2 : j < len := by
      have := (List.getElem?_eq_some_iff.1 hn).1
      rw [List.length_take] at this; omega
     rw [List.getElem?_take, if_pos hj2] at hn
     have hc := hcell j (by omega)
     rw [add_zero', List.getD_eq_getElem?_getD, hn, Option.getD_some] at hc
     rw [hc]
end
end Go.Proofs.YtjgepckncogdaaaGreat

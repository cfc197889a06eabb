/- What a law leans on beyond the base: contracts, plain functions, walks. Conditions: those of each theorem. -/
import Derived.Deep.Matrix
import Derived.Test.YtgehkgjllhkhoaaGreatMC1
set_option linter.unusedVariables false
set_option linter.unusedSimpArgs false
namespace Go.Proofs.YtgehkgjllhkhoaaGreat
open Go.ChangeShapes Go.WideShapes Go.ChangeAt Go.RowKit
set_option linter.unusedVariables false
section
variable {H : Type} {enc : TypeId × Value → H} {w : World} {base : Nat} {r : Reach} {v : Value} {d : DataW H} {ps : List MemPlace}
theorem cells_slice8 : Tryz.prog.cellsOf 34 = 1 := by kernel_rfl
theorem cell_lt {w : World} {b o : Nat} {v : Value} (hc : w.cell? ⟨b, o, none⟩ = some v) : b < w.heap.size := by
 rcases Nat.lt_or_ge b w.heap.size with h1 | h1
 · exact h1
 · exfalso
   have h0 : w.heap[b]? = none := Array.getElem?_eq_none h1
   unfold World.cell? at hc
   simp only [h0] at hc
   simp at hc
theorem sees_row {A : Option Addr} {L C : Nat} {Z : List Int} (hL : L ≤ C) (hC : C ≤ maxLen) (hZ : Z.length = C) (hwf : ∀ n ∈ Z, (Lit.int .u8 n).wf = true) (hA : A = none → C = 0)
 (hc : ∀ a', A = some a' → ∀ c, c < C → w.cell? (a'.add c) = some (.int .u8 (Z.getD c 0))) : SeesB w w.heap.size (.slice A L C) ((Z.take L).map fun n => UInt8.ofNat n.toNat) := by
 have hlen : ((Z.take L).map fun n => UInt8.ofNat n.toNat).length = L := by simp; omega
 unfold SeesB
 rw [hlen]
 refine ⟨by rw [vb_len, hlen, Nat.mul_one], A, C, rfl, hL, hC, fun h0 => ?_⟩
 rcases A with _ | ⟨b, off, spot⟩
 · have := hA rfl; omega
 have hc0 := hc _ rfl 0 (by omega)
 have hspot : spot = none := by simpa [Addr.add] using World.cell?_spot hc0
 subst hspot
 refine ⟨b, off, rfl, ?_, fun j u hj => ?_⟩
 · rw [add_zero'] at hc0
   exact cell_lt hc0
 · rw [vb_get] at hj
   obtain ⟨x, hx, rfl⟩ := Option.map_eq_some_iff.1 hj
   rw [List.getElem?_map] at hx
   obtain ⟨n, hn, rfl⟩ := Option.map_eq_some_iff.1 hx
   have hj2 : j < L := by
    have := (List.getElem?_eq_some_iff.1 hn).1
    rw [List.length_take] at this; omega
   rw [List.getElem?_take, if_pos hj2] at hn
   have hc1 := hc _ rfl j (by omega)
   have hw := hwf n (List.mem_of_getElem? hn)
   rw [add_zero', List.getD_eq_getElem?_getD, hn, Option.getD_some] at hc1
   have hb := bounds_u8 hw
   rw [hc1, byte_of n hb.1 (by omega)]
set_option maxRecDepth 100000 in
theorem open_lists (hval : Value.okWide Tryz.prog w r base 52 v) (h : DataW.Trod enc Tryz.prog w 0 (fun _ => true) true 52 v d ps) : ∃ ls : List Bs, SeesL w w.heap.size v ls := by
 obtain ⟨a0, len, cap, rfl⟩ := okWide_slice Tryz.underlying52 hval
 obtain ⟨fuel, hf⟩ := h
 rcases Go.Deep.open_int_rows Tryz.underlying52 Tryz.underlying34 Tryz.underlying5 cells_slice8 cells_uint8 hf with ⟨hcs, hx⟩ | ⟨a, len', cap', A, L, C, Z, hcs, -, hl, hm, -, hrow⟩
 · simp [Value.cells] at hcs
   obtain ⟨rfl, rfl, rfl⟩ := hcs
   exact ⟨[], [], Sees.nil _ _ 1, fun k hk => absurd hk (by simp)⟩
 · simp [Value.cells] at hcs
   obtain ⟨rfl, rfl, rfl⟩ := hcs
   refine ⟨(List.range len).map fun k => ((Z k).take (L k)).map fun n => UInt8.ofNat n.toNat, (List.range len).map fun k => .slice (A k) (L k) (C k), ?_, fun k hk => ?_⟩
   · rw [List.length_map, List.length_range]
     refine ⟨by simp, some a, cap, rfl, hl, hm, fun h0 => ?_⟩
     obtain ⟨b, off, spot⟩ := a
     have hc := (hrow 0 (by omega)).1
     have hspot : spot = none := by simpa [Addr.add] using World.cell?_spot hc
     subst hspot
     refine ⟨b, off, rfl, ?_, fun j u hj => ?_⟩
     · rw [add_zero'] at hc
       exact cell_lt hc
     · rw [List.getElem?_map] at hj
       obtain ⟨n, hn, rfl⟩ := Option.map_eq_some_iff.1 hj
       have hj2 : j < len := by
        have := (List.getElem?_eq_some_iff.1 hn).1
        rwa [List.length_range] at this
       rw [List.getElem?_range hj2] at hn
       cases hn
       have h9 := (hrow j (by omega)).1
       rwa [add_zero'] at h9
   · rw [List.length_map, List.length_range] at hk
     obtain ⟨h1, h2, h3, h4, h5, h6, h7⟩ := hrow k (by omega)
     refine ⟨.slice (A k) (L k) (C k), by rw [List.getElem?_map, List.getElem?_range hk]; rfl, ?_⟩
     rw [List.getD_eq_getElem?_getD, List.getElem?_map, List.getElem?_range hk]
     exact sees_row h2 h3 h4 h5 h6 (fun a' e => (h7 a' e).2)
end
end Go.Proofs.YtgehkgjllhkhoaaGreat

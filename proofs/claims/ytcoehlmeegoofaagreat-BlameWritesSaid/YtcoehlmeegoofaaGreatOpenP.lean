/- What the walk is told of a proof of misbehaviour that came in. Conditions: that the argument reads as data. -/
import Derived.Test.YtcoehlmeegoofaaGreatFK
import Derived.Deep.Slices
import Derived.Deep.SlicePairs
namespace Go.Proofs.YtcoehlmeegoofaaGreat
open Go.ChangeShapes Go.WideShapes Go.ChangeAt Go.RowKit
section
variable {H : Type} {enc : TypeId × Value → H} {w : World} {base : Nat} {r : Reach} {v : Value} {d : DataW H} {ps : List MemPlace}
theorem cells_linkP : Tryz.prog.cellsOf 41 = 3 := by kernel_rfl
theorem cells_bytesP : Tryz.prog.cellsOf 25 = 1 := by kernel_rfl
theorem cells_proofP : Tryz.prog.cellsOf 24 = 3 := by kernel_rfl
theorem cell_ltP {w : World} {b o : Nat} {u : Value} (h : w.cell? ⟨b, o, none⟩ = some u) : b < w.heap.size := by
  rcases Nat.lt_or_ge b w.heap.size with h1 | h1
  · exact h1
  · exfalso
    have h0 : w.heap[b]? = none := Array.getElem?_eq_none h1
    unfold World.cell? at h
    simp only [h0] at h
    simp at h
theorem addP (b o k : Nat) : (⟨b, o, none⟩ : Addr).add k = ⟨b, o + k, none⟩ := add_zero' b o k
set_option maxRecDepth 100000 in
theorem open_linksF {n : Nat} {y : DataW H × List MemPlace} (hf : DataW.trod enc Tryz.prog w 0 (fun _ => true) true n 22 [v] = some y) : ∃ ls : List (Bs × Bs × Bs), SeesR w w.heap.size v 3 ls.length (linkS ls) := by
  rcases Go.Deep.open_slice Tryz.underlying22 hf with ⟨hcs, hx⟩ | ⟨a, len, cap, m, n', D, Pl, hcs, hb, hl, hm, hmm, hx, hcell⟩
  · cases hcs
    exact ⟨[], SeesR.nil _ _ _⟩
  · cases hcs
    simp only [if_true] at hmm
    subst hmm
    have each : ∀ i, i < len → ∃ q : (Value × Value × Value) × (Bs × Bs × Bs), w.cell? (a.add (i * 3)) = some q.1.1 ∧ w.cell? (a.add (i * 3 + 1)) = some q.1.2.1 ∧ w.cell? (a.add (i * 3 + 2)) = some q.1.2.2 ∧
        SeesB w w.heap.size q.1.1 q.2.1 ∧ SeesB w w.heap.size q.1.2.1 q.2.2.1 ∧ SeesB w w.heap.size q.1.2.2 q.2.2.2 := by
      intro i hi
      obtain ⟨cs', h1, h2⟩ := hcell i (by omega)
      rw [cells_linkP] at h1
      obtain ⟨_, hlen, hc⟩ := World.cells?_some h1
      obtain ⟨xs, k, hk, hxy, _, hxl, hg⟩ := DataW.trod_struct Tryz.underlying41 h2
      match xs, hxl, cs', hlen with
      | [y0, y1, y2], _, [v0, v1, v2], _ =>
        have g0 := hg 0 _ rfl
        have g1 := hg 1 _ rfl
        have g2 := hg 2 _ rfl
        simp [cells_bytesP] at g0 g1 g2
        have e0 := hc 0 (by omega)
        have e1 := hc 1 (by omega)
        have e2 := hc 2 (by omega)
        rw [Go.Deep.add_add] at e0 e1 e2
        obtain ⟨l0, s0⟩ := open_bytesF g0
        obtain ⟨l1, s1⟩ := open_bytesF g1
        obtain ⟨l2, s2⟩ := open_bytesF g2
        exact ⟨((v0, v1, v2), (l0, l1, l2)), by simpa using e0, by simpa using e1, by simpa using e2, s0, s1, s2⟩
    obtain ⟨q, hq⟩ := Go.Deep.choose_lt each
    refine ⟨(List.range len).map fun i => (q i).2, ?_⟩
    have hlen : ((List.range len).map fun i => (q i).2).length = len := by simp
    rw [hlen]
    have hV : ∀ (k : Nat) (s : Spec), (linkS ((List.range len).map fun i => (q i).2))[k]? = some s → ∃ u, ((List.range len).flatMap fun i => [(q i).1.1, (q i).1.2.1, (q i).1.2.2])[k]? = some u ∧ FitS w w.heap.size u s ∧ w.cell? (a.add k) = some u := by
      have hflat : ∀ n, n ≤ len → ((List.range n).flatMap fun i => [(q i).1.1, (q i).1.2.1, (q i).1.2.2]).length = n * 3 := by
        intro n hn
        induction n with
        | zero => rfl
        | succ n ih => rw [List.range_succ, List.flatMap_append, List.length_append, ih (by omega)]; show n * 3 + 3 = _; omega
      have main : ∀ n, n ≤ len → ∀ (k : Nat) (s : Spec), (linkS ((List.range n).map fun i => (q i).2))[k]? = some s → ∃ u, ((List.range n).flatMap fun i => [(q i).1.1, (q i).1.2.1, (q i).1.2.2])[k]? = some u ∧ FitS w w.heap.size u s ∧ w.cell? (a.add k) = some u := by
        intro n hn
        induction n with
        | zero => intro k s h; simp [linkS] at h
        | succ n ih =>
          intro k s h
          have hl1 := linkS_len ((List.range n).map fun i => (q i).2)
          rw [List.length_map, List.length_range] at hl1
          have hl2 := hflat n (by omega)
          rw [List.range_succ, List.map_append, linkS_append] at h
          rw [List.range_succ, List.flatMap_append]
          by_cases hk : k < n * 3
          · rw [List.getElem?_append_left (by rw [hl1]; exact hk)] at h
            rw [List.getElem?_append_left (by rw [hl2]; exact hk)]
            exact ih (by omega) k s h
          · rw [List.getElem?_append_right (by rw [hl1]; omega), hl1] at h
            rw [List.getElem?_append_right (by rw [hl2]; omega), hl2]
            obtain ⟨c0, c1, c2, s0, s1, s2⟩ := hq n (by omega)
            obtain ⟨j, rfl⟩ : ∃ j, k = n * 3 + j := ⟨k - n * 3, by omega⟩
            rw [Nat.add_sub_cancel_left] at h ⊢
            match j, h with
            | 0, h => cases h; exact ⟨_, rfl, s0, c0⟩
            | 1, h => cases h; exact ⟨_, rfl, s1, c1⟩
            | 2, h => cases h; exact ⟨_, rfl, s2, c2⟩
            | j + 3, h => simp [linkS] at h
      exact main len (Nat.le_refl _)
    have hfl : ((List.range len).flatMap fun i => [(q i).1.1, (q i).1.2.1, (q i).1.2.2]).length = len * 3 := by
      have : ∀ n, ((List.range n).flatMap fun i => [(q i).1.1, (q i).1.2.1, (q i).1.2.2]).length = n * 3 := by
        intro n
        induction n with
        | zero => rfl
        | succ n ih => rw [List.range_succ, List.flatMap_append, List.length_append, ih]; show n * 3 + 3 = _; omega
      exact this len
    have hll := linkS_len ((List.range len).map fun i => (q i).2)
    rw [hlen] at hll
    refine ⟨hll, _, ⟨hfl, some a, _, rfl, hl, hm, fun h0 => ?_⟩, fun k s hk => ?_⟩
    · obtain ⟨b, off, spot⟩ := a
      have hc := (hq 0 h0).1
      have hspot : spot = none := by simpa [Addr.add] using World.cell?_spot hc
      subst hspot
      refine ⟨b, off, rfl, ?_, fun j u hj => ?_⟩
      · rw [addP] at hc; exact cell_ltP hc
      · have hjl := (List.getElem?_eq_some_iff.1 hj).1
        rw [hfl, ← hll] at hjl
        obtain ⟨u', e1, -, e3⟩ := hV j _ (List.getElem?_eq_getElem hjl)
        rw [hj] at e1
        cases e1
        rw [addP] at e3
        exact e3
    · obtain ⟨u, e1, e2, -⟩ := hV k s hk
      exact ⟨u, e1, e2⟩
set_option maxRecDepth 100000 in
theorem open_proof (hval : Value.okWide Tryz.prog w r base 24 v) (h : DataW.Trod enc Tryz.prog w 0 (fun _ => true) true 24 v d ps) :
    ∃ (u : Value) (ls : List (Bs × Bs × Bs)) (a b : Int), v = .agg #[u, .int .i64 a, .int .i64 b] ∧ SeesR w w.heap.size u 3 ls.length (linkS ls) ∧ (Lit.int .i64 a).wf = true ∧ (Lit.int .i64 b).wf = true := by
  obtain ⟨c0, c1, c2, y0, y1, y2, m, rfl, rfl, rfl, hy0, hy1, hy2⟩ := Go.Joins.open_agg3 Tryz.underlying24 (by kernel_rfl) cells_proofP hval h
  obtain ⟨ls, hl⟩ := open_linksF hy0
  obtain ⟨a, e0, rfl, wa⟩ := DataW.trod_int Tryz.underlying3 hy1
  obtain ⟨b, e1, rfl, wb⟩ := DataW.trod_int Tryz.underlying3 hy2
  simp at e0 e1
  subst e0 e1
  exact ⟨c0, ls, a, b, rfl, hl, wa, wb⟩
end
end Go.Proofs.YtcoehlmeegoofaaGreat

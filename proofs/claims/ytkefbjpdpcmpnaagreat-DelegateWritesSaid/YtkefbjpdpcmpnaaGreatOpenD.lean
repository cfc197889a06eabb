/- What the walk is told of a delegation that came in. Conditions: that the argument reads as data. -/
import Derived.Test.YtkefbjpdpcmpnaaGreatTower14
namespace Go.Proofs.YtkefbjpdpcmpnaaGreat
open Go.ChangeShapes Go.WideShapes Go.ChangeAt Go.RowKit
section
variable {H : Type} {enc : TypeId × Value → H} {w : World} {base : Nat} {r : Reach} {v : Value} {d : DataW H} {ps : List MemPlace}
theorem cells_delegation : Tryz.prog.cellsOf 37 = 4 := by kernel_rfl
set_option maxRecDepth 100000 in
theorem open_delegation (hval : Value.okWide Tryz.prog w r base 37 v) (h : DataW.Trod enc Tryz.prog w 0 (fun _ => true) true 37 v d ps) :
    ∃ (u : Value) (l : Bs) (a b : Int) (u2 : Value) (l2 : Bs), v = .agg #[u, .int .i64 a, .int .i64 b, u2] ∧ SeesB w w.heap.size u l ∧ SeesB w w.heap.size u2 l2 ∧ (Lit.int .i64 a).wf = true ∧ (Lit.int .i64 b).wf = true := by
  obtain ⟨c0, c1, c2, c3, y0, y1, y2, y3, m, rfl, rfl, rfl, hy0, hy1, hy2, hy3⟩ := Go.Joins.open_agg4 Tryz.underlying37 (by kernel_rfl) cells_delegation hval h
  obtain ⟨l, hl⟩ := open_bytesF hy0
  obtain ⟨l2, hl2⟩ := open_bytesF hy3
  obtain ⟨a, e0, rfl, wa⟩ := DataW.trod_int Tryz.underlying3 hy1
  obtain ⟨b, e1, rfl, wb⟩ := DataW.trod_int Tryz.underlying3 hy2
  simp at e0 e1
  subst e0 e1
  exact ⟨c0, l, a, b, c3, l2, rfl, hl, hl2, wa, wb⟩
end
end Go.Proofs.YtkefbjpdpcmpnaaGreat

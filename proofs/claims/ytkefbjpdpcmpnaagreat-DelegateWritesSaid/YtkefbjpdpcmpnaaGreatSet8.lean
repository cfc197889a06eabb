/- Eight cells of a block written one behind the other: the block, what lies elsewhere. Conditions: those of each theorem. -/
import Derived.Test.YtkefbjpdpcmpnaaGreatContent
namespace Go.Proofs.YtkefbjpdpcmpnaaGreat
open Go.RowKit
set_option linter.unusedVariables false
theorem box_set8 {W : World} {g : Nat} {T : TypeId} {a0 a1 a2 a3 a4 a5 a6 a7 : Value} (h : Box W g T [a0, a1, a2, a3, a4, a5, a6, a7]) (x0 x1 x2 x3 x4 x5 x6 x7 : Value) : Box ((((((((W.setCell ⟨g, 0, none⟩ x0).setCell ⟨g, 1, none⟩ x1).setCell ⟨g, 2, none⟩ x2).setCell ⟨g, 3, none⟩ x3).setCell ⟨g, 4, none⟩ x4).setCell ⟨g, 5, none⟩ x5).setCell ⟨g, 6, none⟩ x6).setCell ⟨g, 7, none⟩ x7) g T [x0, x1, x2, x3, x4, x5, x6, x7] := by
  have y := (((((((h.set 0 x0).set 1 x1).set 2 x2).set 3 x3).set 4 x4).set 5 x5).set 6 x6).set 7 x7
  simpa only [List.set_cons_zero, List.set_cons_succ] using y
theorem below_set8 {w W : World} {g : Nat} (h : Below w.heap.size w W) (hg : w.heap.size ≤ g) (x0 x1 x2 x3 x4 x5 x6 x7 : Value) : Below w.heap.size w ((((((((W.setCell ⟨g, 0, none⟩ x0).setCell ⟨g, 1, none⟩ x1).setCell ⟨g, 2, none⟩ x2).setCell ⟨g, 3, none⟩ x3).setCell ⟨g, 4, none⟩ x4).setCell ⟨g, 5, none⟩ x5).setCell ⟨g, 6, none⟩ x6).setCell ⟨g, 7, none⟩ x7) :=
  ((((((((h.setCell (p := ⟨g, 0, none⟩) hg _).setCell (p := ⟨g, 1, none⟩) hg _).setCell (p := ⟨g, 2, none⟩) hg _).setCell (p := ⟨g, 3, none⟩) hg _).setCell (p := ⟨g, 4, none⟩) hg _).setCell (p := ⟨g, 5, none⟩) hg _).setCell (p := ⟨g, 6, none⟩) hg _).setCell (p := ⟨g, 7, none⟩) hg _)
theorem SeesB.poke8 {W : World} {B g : Nat} {T : TypeId} {u a0 a1 a2 a3 a4 a5 a6 a7 : Value} {l : Bs} (h : SeesB W B u l) (hx : Box W g T [a0, a1, a2, a3, a4, a5, a6, a7]) (p0 : NoB a0) (p1 : NoB a1) (p2 : NoB a2) (p3 : NoB a3) (p4 : NoB a4) (p5 : NoB a5) (p6 : NoB a6) (p7 : NoB a7) (x0 x1 x2 x3 x4 x5 x6 x7 : Value) (q0 : NoB x0) (q1 : NoB x1) (q2 : NoB x2) (q3 : NoB x3) (q4 : NoB x4) (q5 : NoB x5) (q6 : NoB x6) :
    SeesB ((((((((W.setCell ⟨g, 0, none⟩ x0).setCell ⟨g, 1, none⟩ x1).setCell ⟨g, 2, none⟩ x2).setCell ⟨g, 3, none⟩ x3).setCell ⟨g, 4, none⟩ x4).setCell ⟨g, 5, none⟩ x5).setCell ⟨g, 6, none⟩ x6).setCell ⟨g, 7, none⟩ x7) B u l := by
  have k0 := h.poke (j := 0) (v' := x0) hx (noBL8 p0 p1 p2 p3 p4 p5 p6 p7)
  have y0 := hx.set 0 x0
  simp only [List.set_cons_zero] at y0
  have k1 := k0.poke (j := 1) (v' := x1) y0 (noBL8 q0 p1 p2 p3 p4 p5 p6 p7)
  have y1 := y0.set 1 x1
  simp only [List.set_cons_zero, List.set_cons_succ] at y1
  have k2 := k1.poke (j := 2) (v' := x2) y1 (noBL8 q0 q1 p2 p3 p4 p5 p6 p7)
  have y2 := y1.set 2 x2
  simp only [List.set_cons_zero, List.set_cons_succ] at y2
  have k3 := k2.poke (j := 3) (v' := x3) y2 (noBL8 q0 q1 q2 p3 p4 p5 p6 p7)
  have y3 := y2.set 3 x3
  simp only [List.set_cons_zero, List.set_cons_succ] at y3
  have k4 := k3.poke (j := 4) (v' := x4) y3 (noBL8 q0 q1 q2 q3 p4 p5 p6 p7)
  have y4 := y3.set 4 x4
  simp only [List.set_cons_zero, List.set_cons_succ] at y4
  have k5 := k4.poke (j := 5) (v' := x5) y4 (noBL8 q0 q1 q2 q3 q4 p5 p6 p7)
  have y5 := y4.set 5 x5
  simp only [List.set_cons_zero, List.set_cons_succ] at y5
  have k6 := k5.poke (j := 6) (v' := x6) y5 (noBL8 q0 q1 q2 q3 q4 q5 p6 p7)
  have y6 := y5.set 6 x6
  simp only [List.set_cons_zero, List.set_cons_succ] at y6
  have k7 := k6.poke (j := 7) (v' := x7) y6 (noBL8 q0 q1 q2 q3 q4 q5 q6 p7)
  exact k7
theorem OwnL.poke8 {W : World} {base g : Nat} {T : TypeId} {u a0 a1 a2 a3 a4 a5 a6 a7 : Value} {l : List Bs} (h : OwnL W base u l) (hG : g < base) (hx : Box W g T [a0, a1, a2, a3, a4, a5, a6, a7]) (p0 : NoB a0) (p1 : NoB a1) (p2 : NoB a2) (p3 : NoB a3) (p4 : NoB a4) (p5 : NoB a5) (p6 : NoB a6) (p7 : NoB a7) (x0 x1 x2 x3 x4 x5 x6 x7 : Value) (q0 : NoB x0) (q1 : NoB x1) (q2 : NoB x2) (q3 : NoB x3) (q4 : NoB x4) (q5 : NoB x5) (q6 : NoB x6) :
    OwnL ((((((((W.setCell ⟨g, 0, none⟩ x0).setCell ⟨g, 1, none⟩ x1).setCell ⟨g, 2, none⟩ x2).setCell ⟨g, 3, none⟩ x3).setCell ⟨g, 4, none⟩ x4).setCell ⟨g, 5, none⟩ x5).setCell ⟨g, 6, none⟩ x6).setCell ⟨g, 7, none⟩ x7) base u l := by
  have k0 := h.poke (j := 0) (v' := x0) hG hx (noBL8 p0 p1 p2 p3 p4 p5 p6 p7)
  have y0 := hx.set 0 x0
  simp only [List.set_cons_zero] at y0
  have k1 := k0.poke (j := 1) (v' := x1) hG y0 (noBL8 q0 p1 p2 p3 p4 p5 p6 p7)
  have y1 := y0.set 1 x1
  simp only [List.set_cons_zero, List.set_cons_succ] at y1
  have k2 := k1.poke (j := 2) (v' := x2) hG y1 (noBL8 q0 q1 p2 p3 p4 p5 p6 p7)
  have y2 := y1.set 2 x2
  simp only [List.set_cons_zero, List.set_cons_succ] at y2
  have k3 := k2.poke (j := 3) (v' := x3) hG y2 (noBL8 q0 q1 q2 p3 p4 p5 p6 p7)
  have y3 := y2.set 3 x3
  simp only [List.set_cons_zero, List.set_cons_succ] at y3
  have k4 := k3.poke (j := 4) (v' := x4) hG y3 (noBL8 q0 q1 q2 q3 p4 p5 p6 p7)
  have y4 := y3.set 4 x4
  simp only [List.set_cons_zero, List.set_cons_succ] at y4
  have k5 := k4.poke (j := 5) (v' := x5) hG y4 (noBL8 q0 q1 q2 q3 q4 p5 p6 p7)
  have y5 := y4.set 5 x5
  simp only [List.set_cons_zero, List.set_cons_succ] at y5
  have k6 := k5.poke (j := 6) (v' := x6) hG y5 (noBL8 q0 q1 q2 q3 q4 q5 p6 p7)
  have y6 := y5.set 6 x6
  simp only [List.set_cons_zero, List.set_cons_succ] at y6
  have k7 := k6.poke (j := 7) (v' := x7) hG y6 (noBL8 q0 q1 q2 q3 q4 q5 q6 p7)
  exact k7
theorem size_set8 (W : World) (g : Nat) (x0 x1 x2 x3 x4 x5 x6 x7 : Value) : ((((((((W.setCell ⟨g, 0, none⟩ x0).setCell ⟨g, 1, none⟩ x1).setCell ⟨g, 2, none⟩ x2).setCell ⟨g, 3, none⟩ x3).setCell ⟨g, 4, none⟩ x4).setCell ⟨g, 5, none⟩ x5).setCell ⟨g, 6, none⟩ x6).setCell ⟨g, 7, none⟩ x7).heap.size = W.heap.size := by simp [World.setCell]
end Go.Proofs.YtkefbjpdpcmpnaaGreat

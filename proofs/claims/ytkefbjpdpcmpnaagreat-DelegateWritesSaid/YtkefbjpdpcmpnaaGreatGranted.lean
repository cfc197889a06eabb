/- Contract of sectimecase.Granted. Conditions: the window is valid. -/
import Derived.Test.YtkefbjpdpcmpnaaGreatKSigner
namespace Go.Proofs.YtkefbjpdpcmpnaaGreat
open Go.RowKit
set_option linter.unusedVariables false
set_option linter.unusedSimpArgs false
attribute [local go_sem ↓] Go.wp_at_zero Go.wp_at_succ
def GrantedP (ht f t : Int) (w : World) (e : Ending) (w' : World) : Prop :=
  ∃ v1 v2 v3 v4 sd2 pk2 sd1 pk1, e = .returned (.tuple #[.agg #[v1, .int .i64 (ht % 2), .int .i64 0, v2, .int .i64 f, .int .i64 t, v3], v4]) ∧ SeesB w' w'.heap.size v1 sd2 ∧ sd2.length = 32 ∧ pk2 = pubG sd2 (ht % 2) ∧ pk2.length = 32 ∧ SeesB w' w'.heap.size v2 pk2 ∧ SeesB w' w'.heap.size v3 (sigG sd1 0 0 (tGrant ++ pk2 ++ spanB f t)) ∧ sd1.length = 32 ∧ pk1 = pubG sd1 0 ∧ pk1.length = 32 ∧ SeesB w' w'.heap.size v4 pk1 ∧ Below w.heap.size w w'
theorem grant_first {sd p : Bs} {f t : Int} (h1 : sd.length = 32) (h2 : p.length = 32) (h3 : vS f t = true) : grantR sd 0 0 p f t = ((sd, 0, 1), (p, f, t, sigG sd 0 0 (tGrant ++ p ++ spanB f t)), 0) := by
  have hv : validI sd 0 0 = true := by unfold validI; simp [h1]
  have hs : ∀ m, signAll sd 0 0 m = (sd, 0, 1, sigG sd 0 0 m, 0) := fun m => by
    unfold signAll
    rw [if_pos hv, if_neg (by decide)]
    rfl
  unfold grantR
  rw [if_pos hv, if_pos h2, if_pos h3, hs]
  rfl
theorem box7_cells {W : World} {g : Nat} {T : TypeId} {a b c d e f h : Value} (x : Box W g T [a, b, c, d, e, f, h]) : W.cell? ⟨g, 0, none⟩ = some a ∧ W.cell? ⟨g, 1, none⟩ = some b ∧ W.cell? ⟨g, 2, none⟩ = some c ∧ W.cell? ⟨g, 3, none⟩ = some d ∧ W.cell? ⟨g, 4, none⟩ = some e ∧ W.cell? ⟨g, 5, none⟩ = some f ∧ W.cell? ⟨g, 6, none⟩ = some h := ⟨x.cell 0, x.cell 1, x.cell 2, x.cell 3, x.cell 4, x.cell 5, x.cell 6⟩
theorem box7_soft {W : World} {g : Nat} {T : TypeId} {a b c d e f h : Value} (x : Box W g T [a, b, c, d, e, f, h]) : W.frozen? ⟨g, 0, none⟩ = false ∧ W.frozen? ⟨g, 1, none⟩ = false ∧ W.frozen? ⟨g, 2, none⟩ = false ∧ W.frozen? ⟨g, 3, none⟩ = false ∧ W.frozen? ⟨g, 4, none⟩ = false ∧ W.frozen? ⟨g, 5, none⟩ = false ∧ W.frozen? ⟨g, 6, none⟩ = false := ⟨x.frozen 0, x.frozen 1, x.frozen 2, x.frozen 3, x.frozen 4, x.frozen 5, x.frozen 6⟩
theorem box_set7 {W : World} {g : Nat} {T : TypeId} {a0 a1 a2 a3 a4 a5 a6 : Value} (h : Box W g T [a0, a1, a2, a3, a4, a5, a6]) (x0 x1 x2 x3 x4 x5 x6 : Value) : Box (((((((W.setCell ⟨g, 0, none⟩ x0).setCell ⟨g, 1, none⟩ x1).setCell ⟨g, 2, none⟩ x2).setCell ⟨g, 3, none⟩ x3).setCell ⟨g, 4, none⟩ x4).setCell ⟨g, 5, none⟩ x5).setCell ⟨g, 6, none⟩ x6) g T [x0, x1, x2, x3, x4, x5, x6] := by
  have y := ((((((h.set 0 x0).set 1 x1).set 2 x2).set 3 x3).set 4 x4).set 5 x5).set 6 x6
  simpa only [List.set_cons_zero, List.set_cons_succ] using y
theorem below_set7 {w W : World} {g : Nat} (h : Below w.heap.size w W) (hg : w.heap.size ≤ g) (x0 x1 x2 x3 x4 x5 x6 : Value) : Below w.heap.size w (((((((W.setCell ⟨g, 0, none⟩ x0).setCell ⟨g, 1, none⟩ x1).setCell ⟨g, 2, none⟩ x2).setCell ⟨g, 3, none⟩ x3).setCell ⟨g, 4, none⟩ x4).setCell ⟨g, 5, none⟩ x5).setCell ⟨g, 6, none⟩ x6) :=
  ((((((h.setCell (p := ⟨g, 0, none⟩) hg _).setCell (p := ⟨g, 1, none⟩) hg _).setCell (p := ⟨g, 2, none⟩) hg _).setCell (p := ⟨g, 3, none⟩) hg _).setCell (p := ⟨g, 4, none⟩) hg _).setCell (p := ⟨g, 5, none⟩) hg _).setCell (p := ⟨g, 6, none⟩) hg _
theorem noZ7 : NoByte [.slice none 0 0, .int .i64 0, .int .i64 0, .slice none 0 0, .int .i64 0, .int .i64 0, .slice none 0 0] := by
  intro x hx n e
  simp only [List.mem_cons, List.not_mem_nil, or_false] at hx
  rcases hx with rfl | rfl | rfl | rfl | rfl | rfl | rfl <;> cases e
theorem sees_set7 {W : World} {g : Nat} {T : TypeId} {a0 a1 a2 a3 a4 a5 a6 u : Value} {l : Bs} (h : Box W g T [a0, a1, a2, a3, a4, a5, a6]) (n : NoByte [a0, a1, a2, a3, a4, a5, a6]) (x0 x1 x2 x3 x4 x5 x6 : Value) (hs : SeesB W W.heap.size u l) : SeesB (((((((W.setCell ⟨g, 0, none⟩ x0).setCell ⟨g, 1, none⟩ x1).setCell ⟨g, 2, none⟩ x2).setCell ⟨g, 3, none⟩ x3).setCell ⟨g, 4, none⟩ x4).setCell ⟨g, 5, none⟩ x5).setCell ⟨g, 6, none⟩ x6) (((((((W.setCell ⟨g, 0, none⟩ x0).setCell ⟨g, 1, none⟩ x1).setCell ⟨g, 2, none⟩ x2).setCell ⟨g, 3, none⟩ x3).setCell ⟨g, 4, none⟩ x4).setCell ⟨g, 5, none⟩ x5).setCell ⟨g, 6, none⟩ x6).heap.size u l := by
  have hz : (((((((W.setCell ⟨g, 0, none⟩ x0).setCell ⟨g, 1, none⟩ x1).setCell ⟨g, 2, none⟩ x2).setCell ⟨g, 3, none⟩ x3).setCell ⟨g, 4, none⟩ x4).setCell ⟨g, 5, none⟩ x5).setCell ⟨g, 6, none⟩ x6).heap.size = W.heap.size := by simp [World.setCell]
  rw [hz]
  exact hs.over (Nat.le_refl _) h n (ggo (ggo (ggo (ggo (ggo (ggo (setCell_grown W g 0 x0) (setCell_grown _ g 1 x1)) (setCell_grown _ g 2 x2)) (setCell_grown _ g 3 x3)) (setCell_grown _ g 4 x4)) (setCell_grown _ g 5 x5)) (setCell_grown _ g 6 x6))
set_option maxRecDepth 100000 in
set_option maxHeartbeats 4000000 in
theorem kgranted_any (v ht f t : Int) (w : World) (hv : vS f t = true) : Calls Tryz.prog 23 #[.int .i64 v, .int .i64 ht, .int .i64 f, .int .i64 t] w (GrantedP ht f t w) := by
  have hks := Lib.hid (fun x y W => ksigner_any x y W)
  have hal := balloc w (.cells #[.slice none 0 0, .int .i64 0, .int .i64 0, .slice none 0 0, .int .i64 0, .int .i64 0, .slice none 0 0] 41)
  have h8 := Box.new w 41 [.slice none 0 0, .int .i64 0, .int .i64 0, .slice none 0 0, .int .i64 0, .int .i64 0, .slice none 0 0]
  change Box (w.alloc (.cells #[.slice none 0 0, .int .i64 0, .int .i64 0, .slice none 0 0, .int .i64 0, .int .i64 0, .slice none 0 0] 41)) _ _ _ at h8
  replace hal := Lib.hid hal
  go_enter Tryz.func23, Tryz.ntmps23
  go_upto_region 1 with (fail)
  generalize w.alloc (.cells #[.slice none 0 0, .int .i64 0, .int .i64 0, .slice none 0 0, .int .i64 0, .int .i64 0, .slice none 0 0] 41) = W0 at *
  generalize hgg : w.heap.size = g8 at h8 ⊢
  have hg8 : Hid (w.heap.size ≤ g8) := by show _ ≤ _; omega
  replace hgg := Lib.hid hgg
  go_wp2_with fail
  refine (hks.out _ _ _).mono ?_
  rintro e w1 ⟨u1, u4, sd1, pk1, rfl, r1, hsd1, r4, hpk1, hpl1, hb1⟩
  obtain ⟨A1, c1, rfl, -, -⟩ := r1.mk_
  obtain ⟨A4, c4, rfl, -, -⟩ := r4.mk_
  rw [show (0 : Int) % 2 = 0 from rfl] at *
  have hal1 := balloc w1 (.cells #[.slice A1 sd1.length c1, .int .i64 0, .int .i64 0] 39)
  have x10 := Box.new w1 39 [.slice A1 sd1.length c1, .int .i64 0, .int .i64 0]
  change Box (w1.alloc (.cells #[.slice A1 sd1.length c1, .int .i64 0, .int .i64 0] 39)) _ _ _ at x10
  have hb01 := bgo hb1 hal1
  replace h8 := h8.below hb01
  have hbw := Lib.hid (bgo hal.out hb01)
  have s1 := seesB_of r1 (Nat.le_refl _) hal1
  have s4 := seesB_of r4 (Nat.le_refl _) hal1
  replace hsd1 := Lib.hid hsd1
  replace hpk1 := Lib.hid hpk1
  replace hpl1 := Lib.hid hpl1
  dsimp only
  go_upto_region 2 with (fail)
  generalize w1.alloc (.cells #[.slice A1 sd1.length c1, .int .i64 0, .int .i64 0] 39) = W1 at *
  generalize w1.heap.size = g10 at *
  clear hal hb1 hal1 hb01 r1 r4
  go_wp2_with fail
  refine (hks.out _ _ _).mono ?_
  rintro e w2 ⟨u2, u5, sd2, pk2, rfl, r2, hsd2, r5, hpk2, hpl2, hb2⟩
  obtain ⟨A2, c2, rfl, -, -⟩ := r2.mk_
  obtain ⟨A5, c5, rfl, -, -⟩ := r5.mk_
  generalize hH : ht % 2 = H at *
  replace hH := Lib.hid hH
  have hal2 := balloc w2 (.cells #[.slice A2 sd2.length c2, .int .i64 H, .int .i64 0] 39)
  have x12 := Box.new w2 39 [.slice A2 sd2.length c2, .int .i64 H, .int .i64 0]
  change Box (w2.alloc (.cells #[.slice A2 sd2.length c2, .int .i64 H, .int .i64 0] 39)) _ _ _ at x12
  have hb02 := bgo hb2 hal2
  replace h8 := h8.below hb02
  replace x10 := x10.below hb02
  replace hbw := Lib.hid (bgo hbw.out hb02)
  replace s1 := seesB_of s1 (Nat.le_refl _) hb02
  replace s4 := seesB_of s4 (Nat.le_refl _) hb02
  have s2 := seesB_of r2 (Nat.le_refl _) hal2
  have s5 := seesB_of r5 (Nat.le_refl _) hal2
  replace hsd2 := Lib.hid hsd2
  replace hpk2 := Lib.hid hpk2
  replace hpl2 := Lib.hid hpl2
  dsimp only
  go_upto_region 3 with (fail)
  generalize w2.alloc (.cells #[.slice A2 sd2.length c2, .int .i64 H, .int .i64 0] 39) = W2 at *
  generalize w2.heap.size = g12 at *
  clear hb2 hal2 hb02 r2 r5 hks
  have hgr := rgrant_any _ _ _ sd1 pk2 0 0 f t W2 s1 s5 (Nat.le_refl _) (by have := hpl2.out; omega)
  rw [grant_first hsd1.out hpl2.out hv] at hgr
  unfold GrantP at hgr
  dsimp only at hgr
  replace hgr := Lib.hid hgr
  obtain ⟨p0, p1, p2, -, -, -⟩ := box3_cells x10
  go_wp2_with fail
  refine hgr.out.mono ?_
  rintro e w3 ⟨q1, q2, q3, rfl, a1, a2, a3, hb3⟩
  generalize hM : sigG sd1 0 0 (tGrant ++ pk2 ++ spanB f t) = M at *
  replace hM := Lib.hid hM
  obtain ⟨B1, d1, rfl, -, -⟩ := a1.mk_
  obtain ⟨B2, d2, rfl, -, -⟩ := a2.mk_
  obtain ⟨B3, d3, rfl, -, -⟩ := a3.mk_
  have halA := balloc w3 (.cells #[.slice B1 sd1.length d1, .int .i64 0, .int .i64 1] 39)
  have halB := balloc (w3.alloc (.cells #[.slice B1 sd1.length d1, .int .i64 0, .int .i64 1] 39)) (.cells #[.slice B2 pk2.length d2, .int .i64 f, .int .i64 t, .slice B3 M.length d3] 37)
  have hb33 := bgo halA halB
  have x15 := Box.new (w3.alloc (.cells #[.slice B1 sd1.length d1, .int .i64 0, .int .i64 1] 39)) 37 [.slice B2 pk2.length d2, .int .i64 f, .int .i64 t, .slice B3 M.length d3]
  rw [World.size_alloc] at x15
  change Box ((w3.alloc (.cells #[.slice B1 sd1.length d1, .int .i64 0, .int .i64 1] 39)).alloc (.cells #[.slice B2 pk2.length d2, .int .i64 f, .int .i64 t, .slice B3 M.length d3] 37)) _ _ _ at x15
  have hb03 := bgo hb3 hb33
  replace h8 := h8.below hb03
  replace x12 := x12.below hb03
  replace hbw := Lib.hid (bgo hbw.out hb03)
  replace s2 := seesB_of s2 (Nat.le_refl _) hb03
  replace s4 := seesB_of s4 (Nat.le_refl _) hb03
  have t2 := seesB_of a2 (Nat.le_refl _) hb33
  have t3 := seesB_of a3 (Nat.le_refl _) hb33
  dsimp only
  go_upto_region 4 with (fail)
  generalize (w3.alloc (.cells #[.slice B1 sd1.length d1, .int .i64 0, .int .i64 1] 39)).alloc (.cells #[.slice B2 pk2.length d2, .int .i64 f, .int .i64 t, .slice B3 M.length d3] 37) = W3 at *
  clear hb3 hb33 hb03 halA halB a1 a2 a3 x10 s1 s5 hgr p0 p1 p2
  obtain ⟨p0, p1, p2, -, -, -⟩ := box3_cells x12
  obtain ⟨z0, z1, z2, z3, -, -, -, -⟩ := box4_cells x15
  obtain ⟨y0, y1, y2, y3, y4, y5, y6⟩ := box7_cells h8
  obtain ⟨f0, f1, f2, f3, f4, f5, f6⟩ := box7_soft h8
  go_wp2_with fail
  have k := box_set7 h8 (.slice A2 sd2.length c2) (.int .i64 H) (.int .i64 0) (.slice B2 pk2.length d2) (.int .i64 f) (.int .i64 t) (.slice B3 M.length d3)
  have kb := Lib.hid (below_set7 hbw.out hg8.out (.slice A2 sd2.length c2) (.int .i64 H) (.int .i64 0) (.slice B2 pk2.length d2) (.int .i64 f) (.int .i64 t) (.slice B3 M.length d3))
  have k2 := Lib.hid (sees_set7 h8 noZ7 (.slice A2 sd2.length c2) (.int .i64 H) (.int .i64 0) (.slice B2 pk2.length d2) (.int .i64 f) (.int .i64 t) (.slice B3 M.length d3) s2)
  have k4 := Lib.hid (sees_set7 h8 noZ7 (.slice A2 sd2.length c2) (.int .i64 H) (.int .i64 0) (.slice B2 pk2.length d2) (.int .i64 f) (.int .i64 t) (.slice B3 M.length d3) s4)
  have j2 := Lib.hid (sees_set7 h8 noZ7 (.slice A2 sd2.length c2) (.int .i64 H) (.int .i64 0) (.slice B2 pk2.length d2) (.int .i64 f) (.int .i64 t) (.slice B3 M.length d3) t2)
  have j3 := Lib.hid (sees_set7 h8 noZ7 (.slice A2 sd2.length c2) (.int .i64 H) (.int .i64 0) (.slice B2 pk2.length d2) (.int .i64 f) (.int .i64 t) (.slice B3 M.length d3) t3)
  clear y0 y1 y2 y3 y4 y5 y6 f0 f1 f2 f3 f4 f5 f6 h8 p0 p1 p2 z0 z1 z2 z3 x12 x15 s2 s4 t2 t3
  generalize ((((((W3.setCell ⟨g8, 0, none⟩ (.slice A2 sd2.length c2)).setCell ⟨g8, 1, none⟩ (.int .i64 H)).setCell ⟨g8, 2, none⟩ (.int .i64 0)).setCell ⟨g8, 3, none⟩ (.slice B2 pk2.length d2)).setCell ⟨g8, 4, none⟩ (.int .i64 f)).setCell ⟨g8, 5, none⟩ (.int .i64 t)).setCell ⟨g8, 6, none⟩ (.slice B3 M.length d3) = W9 at *
  obtain ⟨y0, y1, y2, y3, y4, y5, y6⟩ := box7_cells k
  refine bodyPost_ret (v := .tuple #[.agg #[.slice A2 sd2.length c2, .int .i64 H, .int .i64 0, .slice B2 pk2.length d2, .int .i64 f, .int .i64 t, .slice B3 M.length d3], .slice A4 pk1.length c4]) (by simp [results, Tryz.results23, go_sem, y0, y1, y2, y3, y4, y5, y6]) rfl ?_
  exact ⟨_, _, _, _, sd2, pk2, sd1, pk1, by rw [hH.out], k2.out, hsd2.out, by rw [hH.out]; exact hpk2.out, hpl2.out, j2.out, by rw [hM.out]; exact j3.out, hsd1.out, hpk1.out, hpl1.out, k4.out, kb.out⟩
end Go.Proofs.YtkefbjpdpcmpnaaGreat

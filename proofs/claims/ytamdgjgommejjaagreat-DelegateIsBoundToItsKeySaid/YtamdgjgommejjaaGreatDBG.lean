/- Contract of sectimecase.Granted with its seeds named. Conditions: the window is valid, the number small. -/
import Derived.Test.YtamdgjgommejjaaGreatDB
import Derived.Deep.CutBlock
namespace Go.Proofs.YtamdgjgommejjaaGreat
open Go.RowKit
set_option linter.unusedVariables false
set_option linter.unusedSimpArgs false
attribute [local go_sem ↓] Go.wp_at_zero Go.wp_at_succ
theorem wrap64_small (x : Int) (h0 : -9223372036854775808 ≤ x) (h1 : x ≤ 9223372036854775807) : wrap64 x = x := by unfold wrap64; omega
def GrantedWP (v ht f t : Int) (w : World) (e : Ending) (w' : World) : Prop :=
  ∃ v1 v2 v3 v4 sd2 pk2 sd1 pk1, e = .returned (.tuple #[.agg #[v1, .int .i64 (ht % 2), .int .i64 0, v2, .int .i64 f, .int .i64 t, v3], v4]) ∧ SeesB w' w'.heap.size v1 sd2 ∧ sd2.length = 32 ∧ pk2 = pubG sd2 (ht % 2) ∧ pk2.length = 32 ∧ SeesB w' w'.heap.size v2 pk2 ∧ SeesB w' w'.heap.size v3 (sigG sd1 0 0 (tGrant ++ pk2 ++ spanB f t)) ∧ sd1.length = 32 ∧ pk1 = pubG sd1 0 ∧ pk1.length = 32 ∧ SeesB w' w'.heap.size v4 pk1 ∧ Below w.heap.size w w' ∧ sd1 = randK (v + 100) 32 ∧ sd2 = randK (v + 1100) 32
set_option maxRecDepth 100000 in
set_option maxHeartbeats 4000000 in
theorem kgrantedW_any (v ht f t : Int) (w : World) (hv : vS f t = true) (hv0 : 0 ≤ v) (hv1 : v ≤ 100000) : Calls Tryz.prog 5 #[.int .i64 v, .int .i64 ht, .int .i64 f, .int .i64 t] w (GrantedWP v ht f t w) := by
  have hks := Lib.hid (fun x y W => ksignerW_any x y W)
  have hm1 : IntKind.i64.wrap (v + 1000) = v + 1000 := by rw [IntKind.wrap_i64]; omega
  have e1 : Hid (wrap64 (v + 100) = v + 100) := wrap64_small _ (by omega) (by omega)
  have e2 : Hid (wrap64 (v + 1000 + 100) = v + 1100) := (wrap64_small _ (by omega) (by omega)).trans (by omega)
  have hal := balloc w (.cells #[.slice none 0 0, .int .i64 0, .int .i64 0, .slice none 0 0, .int .i64 0, .int .i64 0, .slice none 0 0] 29)
  have h8 := Box.new w 29 [.slice none 0 0, .int .i64 0, .int .i64 0, .slice none 0 0, .int .i64 0, .int .i64 0, .slice none 0 0]
  change Box (w.alloc (.cells #[.slice none 0 0, .int .i64 0, .int .i64 0, .slice none 0 0, .int .i64 0, .int .i64 0, .slice none 0 0] 29)) _ _ _ at h8
  replace hal := Lib.hid hal
  go_enter Tryz.func5, Tryz.ntmps5
  go_upto_region 1 with (fail)
  generalize w.alloc (.cells #[.slice none 0 0, .int .i64 0, .int .i64 0, .slice none 0 0, .int .i64 0, .int .i64 0, .slice none 0 0] 29) = W0 at *
  generalize hgg : w.heap.size = g8 at h8 ⊢
  have hg8 : Hid (w.heap.size ≤ g8) := by show _ ≤ _; omega
  replace hgg := Lib.hid hgg
  go_wp2_with fail
  refine (hks.out _ _ _).mono ?_
  rintro e w1 ⟨u1, u4, sd1, pk1, rfl, r1, -, hse1, hsd1, r4, hpk1, hpl1, -, hb1⟩
  replace hse1 := Lib.hid hse1
  obtain ⟨A1, c1, rfl, -, -⟩ := r1.mk_
  obtain ⟨A4, c4, rfl, -, -⟩ := r4.mk_
  rw [show (0 : Int) % 2 = 0 from rfl] at *
  have hal1 := balloc w1 (.cells #[.slice A1 sd1.length c1, .int .i64 0, .int .i64 0] 25)
  have x10 := Box.new w1 25 [.slice A1 sd1.length c1, .int .i64 0, .int .i64 0]
  change Box (w1.alloc (.cells #[.slice A1 sd1.length c1, .int .i64 0, .int .i64 0] 25)) _ _ _ at x10
  have hb01 := bgo hb1 hal1
  replace h8 := h8.below hb01
  have hbw := Lib.hid (bgo hal.out hb01)
  have s1 := seesB_of r1 (Nat.le_refl _) hal1
  have s4 := seesB_of r4 (Nat.le_refl _) hal1
  replace hsd1 := Lib.hid hsd1
  replace hpk1 := Lib.hid hpk1
  replace hpl1 := Lib.hid hpl1
  dsimp only
  go_upto_region 2 with (fail)
  generalize w1.alloc (.cells #[.slice A1 sd1.length c1, .int .i64 0, .int .i64 0] 25) = W1 at *
  generalize w1.heap.size = g10 at *
  clear hal hb1 hal1 hb01 r1 r4
  go_wp2_with fail
  refine (hks.out _ _ _).mono ?_
  rintro e w2 ⟨u2, u5, sd2, pk2, rfl, r2, -, hse2, hsd2, r5, hpk2, hpl2, -, hb2⟩
  replace hse2 := Lib.hid hse2
  obtain ⟨A2, c2, rfl, -, -⟩ := r2.mk_
  obtain ⟨A5, c5, rfl, -, -⟩ := r5.mk_
  generalize hH : ht % 2 = H at *
  replace hH := Lib.hid hH
  have hal2 := balloc w2 (.cells #[.slice A2 sd2.length c2, .int .i64 H, .int .i64 0] 25)
  have x12 := Box.new w2 25 [.slice A2 sd2.length c2, .int .i64 H, .int .i64 0]
  change Box (w2.alloc (.cells #[.slice A2 sd2.length c2, .int .i64 H, .int .i64 0] 25)) _ _ _ at x12
  have hb02 := bgo hb2 hal2
  replace h8 := h8.below hb02
  replace x10 := x10.below hb02
  replace hbw := Lib.hid (bgo hbw.out hb02)
  replace s1 := seesB_of s1 (Nat.le_refl _) hb02
  replace s4 := seesB_of s4 (Nat.le_refl _) hb02
  have s2 := seesB_of r2 (Nat.le_refl _) hal2
  have s5 := seesB_of r5 (Nat.le_refl _) hal2
  replace hsd2 := Lib.hid hsd2
  replace hpk2 := Lib.hid hpk2
  replace hpl2 := Lib.hid hpl2
  dsimp only
  go_upto_region 3 with (fail)
  generalize w2.alloc (.cells #[.slice A2 sd2.length c2, .int .i64 H, .int .i64 0] 25) = W2 at *
  generalize w2.heap.size = g12 at *
  clear hb2 hal2 hb02 r2 r5 hks
  have hgr := rgrant_any _ _ _ sd1 pk2 0 0 f t W2 s1 s5 (Nat.le_refl _) (by have := hpl2.out; omega)
  rw [grant_first hsd1.out hpl2.out hv] at hgr
  unfold GrantP at hgr
  dsimp only at hgr
  replace hgr := Lib.hid hgr
  obtain ⟨p0, p1, p2, -, -, -⟩ := box3_cells x10
  go_wp2_with fail
  refine hgr.out.mono ?_
  rintro e w3 ⟨q1, q2, q3, rfl, a1, a2, a3, hb3⟩
  generalize hM : sigG sd1 0 0 (tGrant ++ pk2 ++ spanB f t) = M at *
  replace hM := Lib.hid hM
  obtain ⟨B1, d1, rfl, -, -⟩ := a1.mk_
  obtain ⟨B2, d2, rfl, -, -⟩ := a2.mk_
  obtain ⟨B3, d3, rfl, -, -⟩ := a3.mk_
  have halA := balloc w3 (.cells #[.slice B1 sd1.length d1, .int .i64 0, .int .i64 1] 25)
  have halB := balloc (w3.alloc (.cells #[.slice B1 sd1.length d1, .int .i64 0, .int .i64 1] 25)) (.cells #[.slice B2 pk2.length d2, .int .i64 f, .int .i64 t, .slice B3 M.length d3] 27)
  have hb33 := bgo halA halB
  have x15 := Box.new (w3.alloc (.cells #[.slice B1 sd1.length d1, .int .i64 0, .int .i64 1] 25)) 27 [.slice B2 pk2.length d2, .int .i64 f, .int .i64 t, .slice B3 M.length d3]
  rw [World.size_alloc] at x15
  change Box ((w3.alloc (.cells #[.slice B1 sd1.length d1, .int .i64 0, .int .i64 1] 25)).alloc (.cells #[.slice B2 pk2.length d2, .int .i64 f, .int .i64 t, .slice B3 M.length d3] 27)) _ _ _ at x15
  have hb03 := bgo hb3 hb33
  replace h8 := h8.below hb03
  replace x12 := x12.below hb03
  replace hbw := Lib.hid (bgo hbw.out hb03)
  replace s2 := seesB_of s2 (Nat.le_refl _) hb03
  replace s4 := seesB_of s4 (Nat.le_refl _) hb03
  have t2 := seesB_of a2 (Nat.le_refl _) hb33
  have t3 := seesB_of a3 (Nat.le_refl _) hb33
  dsimp only
  go_upto_region 4 with (fail)
  generalize (w3.alloc (.cells #[.slice B1 sd1.length d1, .int .i64 0, .int .i64 1] 25)).alloc (.cells #[.slice B2 pk2.length d2, .int .i64 f, .int .i64 t, .slice B3 M.length d3] 27) = W3 at *
  clear hb3 hb33 hb03 halA halB a1 a2 a3 x10 s1 s5 hgr p0 p1 p2
  obtain ⟨p0, p1, p2, -, -, -⟩ := box3_cells x12
  obtain ⟨z0, z1, z2, z3, -, -, -, -⟩ := box4_cells x15
  obtain ⟨y0, y1, y2, y3, y4, y5, y6⟩ := box7_cells h8
  obtain ⟨f0, f1, f2, f3, f4, f5, f6⟩ := box7_soft h8
  go_wp2_with fail
  have k := box_set7 h8 (.slice A2 sd2.length c2) (.int .i64 H) (.int .i64 0) (.slice B2 pk2.length d2) (.int .i64 f) (.int .i64 t) (.slice B3 M.length d3)
  have kb := Lib.hid (below_set7 hbw.out hg8.out (.slice A2 sd2.length c2) (.int .i64 H) (.int .i64 0) (.slice B2 pk2.length d2) (.int .i64 f) (.int .i64 t) (.slice B3 M.length d3))
  have k2 := Lib.hid (sees_set7 h8 noZ7 (.slice A2 sd2.length c2) (.int .i64 H) (.int .i64 0) (.slice B2 pk2.length d2) (.int .i64 f) (.int .i64 t) (.slice B3 M.length d3) s2)
  have k4 := Lib.hid (sees_set7 h8 noZ7 (.slice A2 sd2.length c2) (.int .i64 H) (.int .i64 0) (.slice B2 pk2.length d2) (.int .i64 f) (.int .i64 t) (.slice B3 M.length d3) s4)
  have j2 := Lib.hid (sees_set7 h8 noZ7 (.slice A2 sd2.length c2) (.int .i64 H) (.int .i64 0) (.slice B2 pk2.length d2) (.int .i64 f) (.int .i64 t) (.slice B3 M.length d3) t2)
  have j3 := Lib.hid (sees_set7 h8 noZ7 (.slice A2 sd2.length c2) (.int .i64 H) (.int .i64 0) (.slice B2 pk2.length d2) (.int .i64 f) (.int .i64 t) (.slice B3 M.length d3) t3)
  clear y0 y1 y2 y3 y4 y5 y6 f0 f1 f2 f3 f4 f5 f6 h8 p0 p1 p2 z0 z1 z2 z3 x12 x15 s2 s4 t2 t3
  generalize ((((((W3.setCell ⟨g8, 0, none⟩ (.slice A2 sd2.length c2)).setCell ⟨g8, 1, none⟩ (.int .i64 H)).setCell ⟨g8, 2, none⟩ (.int .i64 0)).setCell ⟨g8, 3, none⟩ (.slice B2 pk2.length d2)).setCell ⟨g8, 4, none⟩ (.int .i64 f)).setCell ⟨g8, 5, none⟩ (.int .i64 t)).setCell ⟨g8, 6, none⟩ (.slice B3 M.length d3) = W9 at *
  obtain ⟨y0, y1, y2, y3, y4, y5, y6⟩ := box7_cells k
  refine bodyPost_ret (v := .tuple #[.agg #[.slice A2 sd2.length c2, .int .i64 H, .int .i64 0, .slice B2 pk2.length d2, .int .i64 f, .int .i64 t, .slice B3 M.length d3], .slice A4 pk1.length c4]) (by simp [results, Tryz.results5, go_sem, y0, y1, y2, y3, y4, y5, y6]) rfl ?_
  exact ⟨_, _, _, _, sd2, pk2, sd1, pk1, by rw [hH.out], k2.out, hsd2.out, by rw [hH.out]; exact hpk2.out, hpl2.out, j2.out, by rw [hM.out]; exact j3.out, hsd1.out, hpk1.out, hpl1.out, k4.out, kb.out, by rw [← e1.out]; exact hse1.out, by rw [← e2.out]; exact hse2.out⟩
end Go.Proofs.YtamdgjgommejjaaGreat

/- What a law leans on beyond the base: contracts, plain functions, walks. Conditions: those of each theorem. -/
import Derived.Test.YtjgepckncogdaaaGreatQCtR
import Derived.Test.YtjgepckncogdaaaGreatSC1
set_option linter.unusedVariables false
set_option linter.unusedSimpArgs false
namespace Go.Proofs.YtjgepckncogdaaaGreat
open Go Go.RowKit
set_option linter.unusedVariables false
set_option linter.unusedSimpArgs false
attribute [local go_sem ↓] Go.wp_at_zero Go.wp_at_succ
def CSBad (c : Int) (w : World) (e : Ending) (w' : World) : Prop :=
 e = .returned (.tuple #[.agg #[.slice none 0 0, .int .i64 0, .int .i64 0], .agg #[.string { data := #[] }, .slice none 0 0, .int .i64 0, .int .i64 0, .slice none 0 0], .int .i64 c]) ∧ Below w.heap.size w w'
set_option maxRecDepth 100000 in
set_option maxHeartbeats 8000000 in
theorem csign_bad (B : Nat) (u u2 : Value) (sd n p : Bs) (h n0 f t : Int) (w : World) (hu : SeesB w B u sd) (hu2 : SeesB w B u2 p) (hB : B ≤ w.heap.size) (hF : (validI sd h n0 && formB n p.length f t) = false) :
 Calls Tryz.prog 49 #[.agg #[u, .int .i64 h, .int .i64 n0], .agg #[.string (strB n), u2, .int .i64 f, .int .i64 t, .slice none 0 0]] w (CSBad 3 w) := by
 obtain ⟨As, cs, rfl, -, -⟩ := hu.mk_
 obtain ⟨Ap, cp, rfl, -, -⟩ := hu2.mk_
 have hvd := fun W hW => svalid_any W.heap.size (.slice As sd.length cs) sd h n0 W hW
 have hfo := fun W => cformed_any n Ap p.length cp none 0 0 f t W
 generalize validI sd h n0 = bV at *
 generalize formB n p.length f t = bF at *
 generalize strB n = S0 at *
 have b1 := balloc w (.cells #[.slice As sd.length cs, .int .i64 h, .int .i64 n0] 27)
 have b2 := balloc (w.alloc (.cells #[.slice As sd.length cs, .int .i64 h, .int .i64 n0] 27)) (.cells #[.string S0, .slice Ap p.length cp, .int .i64 f, .int .i64 t, .slice none 0 0] 70)
 have b3 := balloc ((w.alloc (.cells #[.slice As sd.length cs, .int .i64 h, .int .i64 n0] 27)).alloc (.cells #[.string S0, .slice Ap p.length cp, .int .i64 f, .int .i64 t, .slice none 0 0] 70)) (.cells #[.slice none 0 0, .int .i64 0, .int .i64 0] 27)
 have b4 := balloc (((w.alloc (.cells #[.slice As sd.length cs, .int .i64 h, .int .i64 n0] 27)).alloc (.cells #[.string S0, .slice Ap p.length cp, .int .i64 f, .int .i64 t, .slice none 0 0] 70)).alloc (.cells #[.slice none 0 0, .int .i64 0, .int .i64 0] 27)) (.cells #[.string { data := #[] }, .slice none 0 0, .int .i64 0, .int .i64 0, .slice none 0 0] 70)
 have hbw0 := bgo (bgo (bgo b1 b2) b3) b4
 have x2 := (((Box.new w 27 [.slice As sd.length cs, .int .i64 h, .int .i64 n0]).below b2).below b3).below b4
 have x3 := ((Box.new (w.alloc (.cells #[.slice As sd.length cs, .int .i64 h, .int .i64 n0] 27)) 70 [.string S0, .slice Ap p.length cp, .int .i64 f, .int .i64 t, .slice none 0 0]).below b3).below b4
 have x4 := (Box.new ((w.alloc (.cells #[.slice As sd.length cs, .int .i64 h, .int .i64 n0] 27)).alloc (.cells #[.string S0, .slice Ap p.length cp, .int .i64 f, .int .i64 t, .slice none 0 0] 70)) 27 [.slice none 0 0, .int .i64 0, .int .i64 0]).below b4
 have x5 := Box.new (((w.alloc (.cells #[.slice As sd.length cs, .int .i64 h, .int .i64 n0] 27)).alloc (.cells #[.string S0, .slice Ap p.length cp, .int .i64 f, .int .i64 t, .slice none 0 0] 70)).alloc (.cells #[.slice none 0 0, .int .i64 0, .int .i64 0] 27)) 70 [.string { data := #[] }, .slice none 0 0, .int .i64 0, .int .i64 0, .slice none 0 0]
 rw [World.size_alloc] at x3
 rw [World.size_alloc, World.size_alloc] at x4
 rw [World.size_alloc, World.size_alloc, World.size_alloc] at x5
 change Box ((((w.alloc (.cells #[.slice As sd.length cs, .int .i64 h, .int .i64 n0] 27)).alloc (.cells #[.string S0, .slice Ap p.length cp, .int .i64 f, .int .i64 t, .slice none 0 0] 70)).alloc (.cells #[.slice none 0 0, .int .i64 0, .int .i64 0] 27)).alloc (.cells #[.string { data := #[] }, .slice none 0 0, .int .i64 0, .int .i64 0, .slice none 0 0] 70)) _ _ _ at x2 x3
 change Box ((((w.alloc (.cells #[.slice As sd.length cs, .int .i64 h, .int .i64 n0] 27)).alloc (.cells #[.string S0, .slice Ap p.length cp, .int .i64 f, .int .i64 t, .slice none 0 0] 70)).alloc (.cells #[.slice none 0 0, .int .i64 0, .int .i64 0] 27)).alloc (.cells #[.string { data := #[] }, .slice none 0 0, .int .i64 0, .int .i64 0, .slice none 0 0] 70)) _ _ _ at x4 x5
 change Below _ w ((((w.alloc (.cells #[.slice As sd.length cs, .int .i64 h, .int .i64 n0] 27)).alloc (.cells #[.string S0, .slice Ap p.length cp, .int .i64 f, .int .i64 t, .slice none 0 0] 70)).alloc (.cells #[.slice none 0 0, .int .i64 0, .int .i64 0] 27)).alloc (.cells #[.string { data := #[] }, .slice none 0 0, .int .i64 0, .int .i64 0, .slice none 0 0] 70)) at hbw0
 have ss := seesB_of hu hB hbw0
 clear b1 b2 b3 b4 hu hu2 hB
 go_enter Tryz.func49, Tryz.ntmps49
 go_upto_region 1 with (fail)
 generalize (((w.alloc (.cells #[.slice As sd.length cs, .int .i64 h, .int .i64 n0] 27)).alloc (.cells #[.string S0, .slice Ap p.length cp, .int .i64 f, .int .i64 t, .slice none 0 0] 70)).alloc (.cells #[.slice none 0 0, .int .i64 0, .int .i64 0] 27)).alloc (.cells #[.string { data := #[] }, .slice none 0 0, .int .i64 0, .int .i64 0, .slice none 0 0] 70) = W0 at *
 obtain ⟨g2, hg2⟩ : ∃ x, x = w.heap.size := ⟨_, rfl⟩
 have hbw : Hid (Below w.heap.size w W0) := hbw0
 rw [← hg2] at x2 x3 x4 x5 ⊢
 generalize hg3 : g2 + 1 = g3 at *
 generalize hg4 : g3 + 1 = g4 at *
 generalize hg5 : g4 + 1 = g5 at *
 have hw4 : Hid (w.heap.size ≤ g4) := by show _ ≤ _; omega
 have hw5 : Hid (w.heap.size ≤ g5) := by show _ ≤ _; omega
 have hne45 : Hid (g4 ≠ g5) := by show _ ≠ _; omega
 have hne54 : Hid (g5 ≠ g4) := by show _ ≠ _; omega
 replace hg2 := Lib.hid hg2
 replace hg3 := Lib.hid hg3
 replace hg4 := Lib.hid hg4
 replace hg5 := Lib.hid hg5
 obtain ⟨y0, y1, y2, -, -, -⟩ := box3_cells x2
 have hv1 := Lib.hid (hvd W0 ss)
 replace hfo := Lib.hid hfo
 clear hbw0 hvd ss
 cases bV with
 | false =>
   clear hF
   go_wp2_with fail
   refine hv1.out.mono ?_
   rintro e W1 ⟨rfl, hb1⟩
   replace x2 := x2.below hb1
   replace x3 := x3.below hb1
   replace x4 := x4.below hb1
   replace x5 := x5.below hb1
   replace hbw := Lib.hid (bgo hbw.out hb1)
   clear hv1 y0 y1 y2 hb1 hfo
   obtain ⟨e0, e1, e2, j0, j1, j2⟩ := box3_cells x4
   have c4 := lset3 x4 (.slice none 0 0) (.int .i64 0) (.int .i64 0)
   have c5 := off3 x5 hne45.out (.slice none 0 0) (.int .i64 0) (.int .i64 0)
   have hb3 := below_set3 hbw.out hw4.out (.slice none 0 0) (.int .i64 0) (.int .i64 0)
   obtain ⟨k0, k1, k2, k3, k4⟩ := box5_cells c5
   have l0 := c5.frozen 0
   have l1 := c5.frozen 1
   have l2 := c5.frozen 2
   have l3 := c5.frozen 3
   have l4 := c5.frozen 4
   have d5 := set5 c5 (.string { data := #[] }) (.slice none 0 0) (.int .i64 0) (.int .i64 0) (.slice none 0 0)
   have d4 := off5 c4 hne54.out (.string { data := #[] }) (.slice none 0 0) (.int .i64 0) (.int .i64 0) (.slice none 0 0)
   have hb4 := below5 hb3 hw5.out (.string { data := #[] }) (.slice none 0 0) (.int .i64 0) (.int .i64 0) (.slice none 0 0)
   dsimp only
   go_wp2_with fail
   have z0 := d4.cell 0
   have z1 := d4.cell 1
   have z2 := d4.cell 2
   obtain ⟨z3, z4, z5, z6, z7⟩ := box5_cells d5
   simp only [List.getElem?_cons_zero, List.getElem?_cons_succ] at z0 z1 z2
   refine bodyPost_ret (v := .tuple #[.agg #[.slice none 0 0, .int .i64 0, .int .i64 0], .agg #[.string { data := #[] }, .slice none 0 0, .int .i64 0, .int .i64 0, .slice none 0 0], .int .i64 3]) (by simp [results, Tryz.results49, go_sem, z0, z1, z2, z3, z4, z5, z6, z7]) rfl ?_
   exact ⟨rfl, hb4⟩
 | true =>
   obtain rfl : bF = false := by simpa using hF
   clear hF
   go_wp2_with fail
   refine hv1.out.mono ?_
   rintro e W1 ⟨rfl, hb1⟩
   replace x2 := x2.below hb1
   replace x3 := x3.below hb1
   replace x4 := x4.below hb1
   replace x5 := x5.below hb1
   replace hbw := Lib.hid (bgo hbw.out hb1)
   clear hv1 y0 y1 y2 hb1
   obtain ⟨y0, y1, y2, y3, y4⟩ := box5_cells x3
   dsimp only
   go_wp2_with fail
   refine (hfo.out _).mono ?_
   rintro e W2 ⟨rfl, hb1⟩
   replace x2 := x2.below hb1
   replace x3 := x3.below hb1
   replace x4 := x4.below hb1
   replace x5 := x5.below hb1
   replace hbw := Lib.hid (bgo hbw.out hb1)
   clear hfo y0 y1 y2 y3 y4 hb1
   obtain ⟨e0, e1, e2, j0, j1, j2⟩ := box3_cells x4
   have c4 := lset3 x4 (.slice none 0 0) (.int .i64 0) (.int .i64 0)
   have c5 := off3 x5 hne45.out (.slice none 0 0) (.int .i64 0) (.int .i64 0)
   have hb3 := below_set3 hbw.out hw4.out (.slice none 0 0) (.int .i64 0) (.int .i64 0)
   obtain ⟨k0, k1, k2, k3, k4⟩ := box5_cells c5
   have l0 := c5.frozen 0
   have l1 := c5.frozen 1
   have l2 := c5.frozen 2
   have l3 := c5.frozen 3
   have l4 := c5.frozen 4
   have d5 := set5 c5 (.string { data := #[] }) (.slice none 0 0) (.int .i64 0) (.int .i64 0) (.slice none 0 0)
   have d4 := off5 c4 hne54.out (.string { data := #[] }) (.slice none 0 0) (.int .i64 0) (.int .i64 0) (.slice none 0 0)
   have hb4 := below5 hb3 hw5.out (.string { data := #[] }) (.slice none 0 0) (.int .i64 0) (.int .i64 0) (.slice none 0 0)
   dsimp only
   go_wp2_with fail
   have z0 := d4.cell 0
   have z1 := d4.cell 1
   have z2 := d4.cell 2
   obtain ⟨z3, z4, z5, z6, z7⟩ := box5_cells d5
   simp only [List.getElem?_cons_zero, List.getElem?_cons_succ] at z0 z1 z2
   refine bodyPost_ret (v := .tuple #[.agg #[.slice none 0 0, .int .i64 0, .int .i64 0], .agg #[.string { data := #[] }, .slice none 0 0, .int .i64 0, .int .i64 0, .slice none 0 0], .int .i64 3]) (by simp [results, Tryz.results49, go_sem, z0, z1, z2, z3, z4, z5, z6, z7]) rfl ?_
   exact ⟨rfl, hb4⟩
set_option maxRecDepth 100000 in
set_option maxHeartbeats 8000000 in
theorem crsign_bad (B : Nat) (u u2 : Value) (sd n p : Bs) (h n0 f t : Int) (w : World) (hu : SeesB w B u sd) (hu2 : SeesB w B u2 p) (hB : B ≤ w.heap.size) (hF : (validI sd h n0 && formB n p.length f t) = false) :
 Calls Tryz.prog 50 #[.agg #[u, .int .i64 h, .int .i64 n0], .agg #[.string (strB n), u2, .int .i64 f, .int .i64 t, .slice none 0 0]] w (CSBad 3 w) := by
 obtain ⟨As, cs, rfl, -, -⟩ := hu.mk_
 obtain ⟨Ap, cp, rfl, -, -⟩ := hu2.mk_
 have hvd := fun W hW => rsvalid_any W.heap.size (.slice As sd.length cs) sd h n0 W hW
 have hfo := fun W => crformed_any n Ap p.length cp none 0 0 f t W
 generalize validI sd h n0 = bV at *
 generalize formB n p.length f t = bF at *
 generalize strB n = S0 at *
 have b1 := balloc w (.cells #[.slice As sd.length cs, .int .i64 h, .int .i64 n0] 27)
 have b2 := balloc (w.alloc (.cells #[.slice As sd.length cs, .int .i64 h, .int .i64 n0] 27)) (.cells #[.string S0, .slice Ap p.length cp, .int .i64 f, .int .i64 t, .slice none 0 0] 70)
 have b3 := balloc ((w.alloc (.cells #[.slice As sd.length cs, .int .i64 h, .int .i64 n0] 27)).alloc (.cells #[.string S0, .slice Ap p.length cp, .int .i64 f, .int .i64 t, .slice none 0 0] 70)) (.cells #[.slice none 0 0, .int .i64 0, .int .i64 0] 27)
 have b4 := balloc (((w.alloc (.cells #[.slice As sd.length cs, .int .i64 h, .int .i64 n0] 27)).alloc (.cells #[.string S0, .slice Ap p.length cp, .int .i64 f, .int .i64 t, .slice none 0 0] 70)).alloc (.cells #[.slice none 0 0, .int .i64 0, .int .i64 0] 27)) (.cells #[.string { data := #[] }, .slice none 0 0, .int .i64 0, .int .i64 0, .slice none 0 0] 70)
 have hbw0 := bgo (bgo (bgo b1 b2) b3) b4
 have x2 := (((Box.new w 27 [.slice As sd.length cs, .int .i64 h, .int .i64 n0]).below b2).below b3).below b4
 have x3 := ((Box.new (w.alloc (.cells #[.slice As sd.length cs, .int .i64 h, .int .i64 n0] 27)) 70 [.string S0, .slice Ap p.length cp, .int .i64 f, .int .i64 t, .slice none 0 0]).below b3).below b4
 have x4 := (Box.new ((w.alloc (.cells #[.slice As sd.length cs, .int .i64 h, .int .i64 n0] 27)).alloc (.cells #[.string S0, .slice Ap p.length cp, .int .i64 f, .int .i64 t, .slice none 0 0] 70)) 27 [.slice none 0 0, .int .i64 0, .int .i64 0]).below b4
 have x5 := Box.new (((w.alloc (.cells #[.slice As sd.length cs, .int .i64 h, .int .i64 n0] 27)).alloc (.cells #[.string S0, .slice Ap p.length cp, .int .i64 f, .int .i64 t, .slice none 0 0] 70)).alloc (.cells #[.slice none 0 0, .int .i64 0, .int .i64 0] 27)) 70 [.string { data := #[] }, .slice none 0 0, .int .i64 0, .int .i64 0, .slice none 0 0]
 rw [World.size_alloc] at x3
 rw [World.size_alloc, World.size_alloc] at x4
 rw [World.size_alloc, World.size_alloc, World.size_alloc] at x5
 change Box ((((w.alloc (.cells #[.slice As sd.length cs, .int .i64 h, .int .i64 n0] 27)).alloc (.cells #[.string S0, .slice Ap p.length cp, .int .i64 f, .int .i64 t, .slice none 0 0] 70)).alloc (.cells #[.slice none 0 0, .int .i64 0, .int .i64 0] 27)).alloc (.cells #[.string { data := #[] }, .slice none 0 0, .int .i64 0, .int .i64 0, .slice none 0 0] 70)) _ _ _ at x2 x3
 change Box ((((w.alloc (.cells #[.slice As sd.length cs, .int .i64 h, .int .i64 n0] 27)).alloc (.cells #[.string S0, .slice Ap p.length cp, .int .i64 f, .int .i64 t, .slice none 0 0] 70)).alloc (.cells #[.slice none 0 0, .int .i64 0, .int .i64 0] 27)).alloc (.cells #[.string { data := #[] }, .slice none 0 0, .int .i64 0, .int .i64 0, .slice none 0 0] 70)) _ _ _ at x4 x5
 change Below _ w ((((w.alloc (.cells #[.slice As sd.length cs, .int .i64 h, .int .i64 n0] 27)).alloc (.cells #[.string S0, .slice Ap p.length cp, .int .i64 f, .int .i64 t, .slice none 0 0] 70)).alloc (.cells #[.slice none 0 0, .int .i64 0, .int .i64 0] 27)).alloc (.cells #[.string { data := #[] }, .slice none 0 0, .int .i64 0, .int .i64 0, .slice none 0 0] 70)) at hbw0
 have ss := seesB_of hu hB hbw0
 clear b1 b2 b3 b4 hu hu2 hB
 go_enter Tryz.func50, Tryz.ntmps50
 go_upto_region 1 with (fail)
 generalize (((w.alloc (.cells #[.slice As sd.length cs, .int .i64 h, .int .i64 n0] 27)).alloc (.cells #[.string S0, .slice Ap p.length cp, .int .i64 f, .int .i64 t, .slice none 0 0] 70)).alloc (.cells #[.slice none 0 0, .int .i64 0, .int .i64 0] 27)).alloc (.cells #[.string { data := #[] }, .slice none 0 0, .int .i64 0, .int .i64 0, .slice none 0 0] 70) = W0 at *
 obtain ⟨g2, hg2⟩ : ∃ x, x = w.heap.size := ⟨_, rfl⟩
 have hbw : Hid (Below w.heap.size w W0) := hbw0
 rw [← hg2] at x2 x3 x4 x5 ⊢
 generalize hg3 : g2 + 1 = g3 at *
 generalize hg4 : g3 + 1 = g4 at *
 generalize hg5 : g4 + 1 = g5 at *
 have hw4 : Hid (w.heap.size ≤ g4) := by show _ ≤ _; omega
 have hw5 : Hid (w.heap.size ≤ g5) := by show _ ≤ _; omega
 have hne45 : Hid (g4 ≠ g5) := by show _ ≠ _; omega
 have hne54 : Hid (g5 ≠ g4) := by show _ ≠ _; omega
 replace hg2 := Lib.hid hg2
 replace hg3 := Lib.hid hg3
 replace hg4 := Lib.hid hg4
 replace hg5 := Lib.hid hg5
 obtain ⟨y0, y1, y2, -, -, -⟩ := box3_cells x2
 have hv1 := Lib.hid (hvd W0 ss)
 replace hfo := Lib.hid hfo
 clear hbw0 hvd ss
 cases bV with
 | false =>
   clear hF
   go_wp2_with fail
   refine hv1.out.mono ?_
   rintro e W1 ⟨rfl, hb1⟩
   replace x2 := x2.below hb1
   replace x3 := x3.below hb1
   replace x4 := x4.below hb1
   replace x5 := x5.below hb1
   replace hbw := Lib.hid (bgo hbw.out hb1)
   clear hv1 y0 y1 y2 hb1 hfo
   obtain ⟨e0, e1, e2, j0, j1, j2⟩ := box3_cells x4
   have c4 := lset3 x4 (.slice none 0 0) (.int .i64 0) (.int .i64 0)
   have c5 := off3 x5 hne45.out (.slice none 0 0) (.int .i64 0) (.int .i64 0)
   have hb3 := below_set3 hbw.out hw4.out (.slice none 0 0) (.int .i64 0) (.int .i64 0)
   obtain ⟨k0, k1, k2, k3, k4⟩ := box5_cells c5
   have l0 := c5.frozen 0
   have l1 := c5.frozen 1
   have l2 := c5.frozen 2
   have l3 := c5.frozen 3
   have l4 := c5.frozen 4
   have d5 := set5 c5 (.string { data := #[] }) (.slice none 0 0) (.int .i64 0) (.int .i64 0) (.slice none 0 0)
   have d4 := off5 c4 hne54.out (.string { data := #[] }) (.slice none 0 0) (.int .i64 0) (.int .i64 0) (.slice none 0 0)
   have hb4 := below5 hb3 hw5.out (.string { data := #[] }) (.slice none 0 0) (.int .i64 0) (.int .i64 0) (.slice none 0 0)
   dsimp only
   go_wp2_with fail
   have z0 := d4.cell 0
   have z1 := d4.cell 1
   have z2 := d4.cell 2
   obtain ⟨z3, z4, z5, z6, z7⟩ := box5_cells d5
   simp only [List.getElem?_cons_zero, List.getElem?_cons_succ] at z0 z1 z2
   refine bodyPost_ret (v := .tuple #[.agg #[.slice none 0 0, .int .i64 0, .int .i64 0], .agg #[.string { data := #[] }, .slice none 0 0, .int .i64 0, .int .i64 0, .slice none 0 0], .int .i64 3]) (by simp [results, Tryz.results50, go_sem, z0, z1, z2, z3, z4, z5, z6, z7]) rfl ?_
   exact ⟨rfl, hb4⟩
 | true =>
   obtain rfl : bF = false := by simpa using hF
   clear hF
   go_wp2_with fail
   refine hv1.out.mono ?_
   rintro e W1 ⟨rfl, hb1⟩
   replace x2 := x2.below hb1
   replace x3 := x3.below hb1
   replace x4 := x4.below hb1
   replace x5 := x5.below hb1
   replace hbw := Lib.hid (bgo hbw.out hb1)
   clear hv1 y0 y1 y2 hb1
   obtain ⟨y0, y1, y2, y3, y4⟩ := box5_cells x3
   dsimp only
   go_wp2_with fail
   refine (hfo.out _).mono ?_
   rintro e W2 ⟨rfl, hb1⟩
   replace x2 := x2.below hb1
   replace x3 := x3.below hb1
   replace x4 := x4.below hb1
   replace x5 := x5.below hb1
   replace hbw := Lib.hid (bgo hbw.out hb1)
   clear hfo y0 y1 y2 y3 y4 hb1
   obtain ⟨e0, e1, e2, j0, j1, j2⟩ := box3_cells x4
   have c4 := lset3 x4 (.slice none 0 0) (.int .i64 0) (.int .i64 0)
   have c5 := off3 x5 hne45.out (.slice none 0 0) (.int .i64 0) (.int .i64 0)
   have hb3 := below_set3 hbw.out hw4.out (.slice none 0 0) (.int .i64 0) (.int .i64 0)
   obtain ⟨k0, k1, k2, k3, k4⟩ := box5_cells c5
   have l0 := c5.frozen 0
   have l1 := c5.frozen 1
   have l2 := c5.frozen 2
   have l3 := c5.frozen 3
   have l4 := c5.frozen 4
   have d5 := set5 c5 (.string { data := #[] }) (.slice none 0 0) (.int .i64 0) (.int .i64 0) (.slice none 0 0)
   have d4 := off5 c4 hne54.out (.string { data := #[] }) (.slice none 0 0) (.int .i64 0) (.int .i64 0) (.slice none 0 0)
   have hb4 := below5 hb3 hw5.out (.string { data := #[] }) (.slice none 0 0) (.int .i64 0) (.int .i64 0) (.slice none 0 0)
   dsimp only
   go_wp2_with fail
   have z0 := d4.cell 0
   have z1 := d4.cell 1
   have z2 := d4.cell 2
   obtain ⟨z3, z4, z5, z6, z7⟩ := box5_cells d5
   simp only [List.getElem?_cons_zero, List.getElem?_cons_succ] at z0 z1 z2
   refine bodyPost_ret (v := .tuple #[.agg #[.slice none 0 0, .int .i64 0, .int .i64 0], .agg #[.string { data := #[] }, .slice none 0 0, .int .i64 0, .int .i64 0, .slice none 0 0], .int .i64 3]) (by simp [results, Tryz.results50, go_sem, z0, z1, z2, z3, z4, z5, z6, z7]) rfl ?_
   exact ⟨rfl, hb4⟩
end Go.Proofs.YtjgepckncogdaaaGreat

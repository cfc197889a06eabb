/- What a law leans on beyond the base: contracts, plain functions, walks. Conditions: those of each theorem. -/
import Derived.Deep.CutBlock
import Derived.Test.YtgehkgjllhkhoaaGreatLWinP
import Derived.Test.YtgehkgjllhkhoaaGreatLC2
import Derived.Test.YtgehkgjllhkhoaaGreatLSwap
import Derived.Test.YtgehkgjllhkhoaaGreatLKSignS
namespace Go.Proofs.YtgehkgjllhkhoaaGreat
open Go Go.RowKit
set_option linter.unusedVariables false
set_option linter.unusedSimpArgs false
attribute [local go_sem ↓] Go.wp_at_zero Go.wp_at_succ
theorem box_aside {W : World} {g G j : Nat} {T : TypeId} {v : Value} {xs : List Value} (hne : g ≠ G) (h : Box W g T xs) : Box (W.setCell ⟨G, j, none⟩ v) g T xs :=
 ((setCell_grown W G j v).block g h.lt (fun e => hne (Option.some.inj e))).trans h
theorem box_three {W : World} {g : Nat} {T : TypeId} {a b c : Value} (h : Box W g T [a, b, c]) (x y z : Value) : Box (((W.setCell ⟨g, 0, none⟩ x).setCell ⟨g, 1, none⟩ y).setCell ⟨g, 2, none⟩ z) g T [x, y, z] := by
 have q := ((h.set 0 x).set 1 y).set 2 z
 simpa only [List.set_cons_zero, List.set_cons_succ] using q
theorem box_four {W : World} {g : Nat} {T : TypeId} {a b c d : Value} (h : Box W g T [a, b, c, d]) (x y z u : Value) : Box ((((W.setCell ⟨g, 0, none⟩ x).setCell ⟨g, 1, none⟩ y).setCell ⟨g, 2, none⟩ z).setCell ⟨g, 3, none⟩ u) g T [x, y, z, u] := by
 have q := (((h.set 0 x).set 1 y).set 2 z).set 3 u
 simpa only [List.set_cons_zero, List.set_cons_succ] using q
theorem noS3 {a : Option Addr} {n k : Nat} {x y : Int} : NoByte [Value.slice a n k, .int .i64 x, .int .i64 y] := by
 intro q hq n e
 simp only [List.mem_cons, List.not_mem_nil, or_false] at hq
 rcases hq with rfl | rfl | rfl <;> cases e
theorem noS4 {a b : Option Addr} {n k n2 k2 : Nat} {x y : Int} : NoByte [Value.slice a n k, .int .i64 x, .int .i64 y, Value.slice b n2 k2] := by
 intro q hq n e
 simp only [List.mem_cons, List.not_mem_nil, or_false] at hq
 rcases hq with rfl | rfl | rfl | rfl <;> cases e
theorem two_laid {w W : World} {g : Nat} {s0 s1 s2 z0 z1 z2 z3 x0 x1 x2 y0 y1 y2 y3 : Value} {T U : TypeId} (hb : Below w.heap.size w W) (hg : w.heap.size ≤ g) (x : Box W g T [s0, s1, s2]) (hn : NoByte [s0, s1, s2]) (hz : NoByte [z0, z1, z2, z3]) :
 ∃ V, V = (((((((W.alloc (.cells #[z0, z1, z2, z3] U)).setCell ⟨g, 0, none⟩ x0).setCell ⟨g, 1, none⟩ x1).setCell ⟨g, 2, none⟩ x2).setCell ⟨W.heap.size, 0, none⟩ y0).setCell ⟨W.heap.size, 1, none⟩ y1).setCell ⟨W.heap.size, 2, none⟩ y2).setCell ⟨W.heap.size, 3, none⟩ y3 ∧
  Box V g T [x0, x1, x2] ∧ Box V W.heap.size U [y0, y1, y2, y3] ∧ Below w.heap.size w V ∧ (∀ u l, SeesB W W.heap.size u l → SeesB V V.heap.size u l) ∧ ∀ g' T' xs, g' ≠ g → Box W g' T' xs → Box V g' T' xs := by
 have hal := balloc W (.cells #[z0, z1, z2, z3] U)
 have xa := x.below hal
 have hne : g ≠ W.heap.size := Nat.ne_of_lt x.lt
 have xn := Box.new W U [z0, z1, z2, z3]
 change Box (W.alloc (.cells #[z0, z1, z2, z3] U)) _ _ _ at xn
 have h1 := box_three xa x0 x1 x2
 have h2 : Box _ _ _ _ := box_aside (j := 2) (v := x2) (Ne.symm hne) (box_aside (j := 1) (v := x1) (Ne.symm hne) (box_aside (j := 0) (v := x0) (Ne.symm hne) xn))
 refine ⟨_, rfl, ?_, box_four h2 y0 y1 y2 y3, ?_, ?_, ?_⟩
 · exact box_aside hne (box_aside hne (box_aside hne (box_aside hne h1)))
 · have hw : w.heap.size ≤ W.heap.size := hb.size
   exact (((below_set3 (bgo hb hal) hg x0 x1 x2).setCell (p := ⟨W.heap.size, 0, none⟩) hw y0).setCell (p := ⟨W.heap.size, 1, none⟩) hw y1 |>.setCell (p := ⟨W.heap.size, 2, none⟩) hw y2).setCell (p := ⟨W.heap.size, 3, none⟩) hw y3
 · intro u l hs
   have s1 := seesB_of hs (Nat.le_refl _) hal
   have hgr := ggo (ggo (setCell_grown (W.alloc (.cells #[z0, z1, z2, z3] U)) g 0 x0) (setCell_grown _ g 1 x1)) (setCell_grown _ g 2 x2)
   have s2 := s1.over (Nat.le_refl _) xa hn hgr
   have hgr2 := ggo (ggo (ggo (setCell_grown ((((W.alloc (.cells #[z0, z1, z2, z3] U)).setCell ⟨g, 0, none⟩ x0).setCell ⟨g, 1, none⟩ x1).setCell ⟨g, 2, none⟩ x2) W.heap.size 0 y0) (setCell_grown _ W.heap.size 1 y1)) (setCell_grown _ W.heap.size 2 y2)) (setCell_grown _ W.heap.size 3 y3)
   have s3 := (s2.more (by simp [World.setCell])).over (Nat.le_refl _) h2 hz hgr2
   exact s3.more (by simp [World.setCell])
 · intro g' T' xs hg' hx
   have hne2 : g' ≠ W.heap.size := Nat.ne_of_lt hx.lt
   have z := hx.below hal
   exact box_aside hne2 (box_aside hne2 (box_aside hne2 (box_aside hne2 (box_aside hg' (box_aside hg' (box_aside hg' z))))))
set_option maxRecDepth 100000 in
set_option maxHeartbeats 8000000 in
theorem dkw_law (v : Int) (wf0 : (Lit.int .i64 v).wf = true) (lo : Int) (wf1 : (Lit.int .i64 lo).wf = true) (wd : Int) (wf2 : (Lit.int .i64 wd).wf = true) (fr : Int) (wf3 : (Lit.int .i64 fr).wf = true) (sz : Int) (wf4 : (Lit.int .i64 sz).wf = true) (w : World) :
 Calls Tryz.prog 10 #[.int .i64 v, .int .i64 lo, .int .i64 wd, .int .i64 fr, .int .i64 sz] w fun e w' => e = .returned (.bool true) ∧ Below w.heap.size w w' := by
 clear wf0 wf1 wf2 wf3 wf4
 have hwi := Lib.hid (fun (v m : Int) (h1 : 1 ≤ m) (h2 : m ≤ 4294967296) W => kwithin_any v m h1 h2 W)
 have hkn := Lib.hid (fun W => dknown_any W)
 have hsg := Lib.hid (fun v W => ksignerS_any v 1 W)
 have hkr := Lib.hid (fun x W => (show Calls Tryz.prog 49 #[.int .i64 x, .int .i64 32] W (Shows (randK x 32) W) from krandom_any x 32 (by omega) W))
 obtain ⟨q, hq, hq2⟩ := kmod_nat v 1000 (by omega)
 have hwq := fun W => hwi.out v 1000 (by omega) (by omega) W
 rw [hq] at hwq
 obtain ⟨f, hf, hf2⟩ := kmod_nat fr 500 (by omega)
 have hwf := fun W => hwi.out fr 500 (by omega) (by omega) W
 rw [hf] at hwf
 obtain ⟨z, hz, hz2⟩ := kmod_nat sz 500 (by omega)
 have hwz := fun W => hwi.out sz 500 (by omega) (by omega) W
 rw [hz] at hwz
 obtain ⟨l, hl, hl2⟩ := kmod_nat lo 1000 (by omega)
 have hwl := fun W => hwi.out lo 1000 (by omega) (by omega) W
 rw [hl] at hwl
 obtain ⟨d, hd, hd2⟩ := kmod_nat wd 300 (by omega)
 have hwd := fun W => hwi.out wd 300 (by omega) (by omega) W
 rw [hd] at hwd
 have m1 : IntKind.i64.wrap ((f : Int) + (z : Int)) = (f : Int) + (z : Int) := by rw [IntKind.wrap_i64]; omega
 have m2 : IntKind.i64.wrap ((l : Int) + (d : Int)) = (l : Int) + (d : Int) := by rw [IntKind.wrap_i64]; omega
 have hb := Lib.hid (⟨hf2, hz2, hl2, hd2⟩ : (f : Int) < 500 ∧ (z : Int) < 500 ∧ (l : Int) < 1000 ∧ (d : Int) < 300)
 replace hwq := Lib.hid hwq
 replace hwf := Lib.hid hwf
 replace hwz := Lib.hid hwz
 replace hwl := Lib.hid hwl
 replace hwd := Lib.hid hwd
 clear hq hq2 hf hf2 hz hz2 hl hl2 hd hd2 hwi
 go_enter Tryz.func10, Tryz.ntmps10
 go_wp2_with fail
 refine (hwq.out w).mono ?_
 rintro e w1 ⟨rfl, hw1⟩
 obtain rfl := hw1.symm
 dsimp only
 go_wp2_with fail
 refine (hsg.out _ _).mono ?_
 rintro e w1 ⟨v1, v2, sd, pk, rfl, r1, -, l1, r2, hpk, hpkl, -, hb1⟩
 rw [show (1 : Int) % 2 = 1 from rfl] at hpk ⊢
 obtain ⟨A1, c1, rfl, -, -⟩ := r1.mk_
 obtain ⟨A2, c2, rfl, -, -⟩ := r2.mk_
 have hal1 := balloc w1 (.cells #[.slice A1 sd.length c1, .int .i64 1, .int .i64 0] 43)
 have x11 := Box.new w1 43 [.slice A1 sd.length c1, .int .i64 1, .int .i64 0]
 change Box (w1.alloc (.cells #[.slice A1 sd.length c1, .int .i64 1, .int .i64 0] 43)) _ _ _ at x11
 have hg11 : Hid (w.heap.size ≤ w1.heap.size) := hb1.size
 replace r1 := seesB_of r1 (Nat.le_refl _) hal1
 replace r2 := seesB_of r2 (Nat.le_refl _) hal1
 have hbw := Lib.hid (bgo hb1 hal1)
 replace l1 := Lib.hid l1
 replace hpk := Lib.hid hpk
 replace hpkl := Lib.hid hpkl
 clear hal1 hb1
 dsimp only
 go_upto_region 3 with (fail)
 generalize w1.alloc (.cells #[.slice A1 sd.length c1, .int .i64 1, .int .i64 0] 43) = W1 at *
 generalize w1.heap.size = g11 at *
 go_wp2_with fail
 refine (hsg.out _ _).mono ?_
 rintro e w2 ⟨v3, v4, sd2, P, rfl, r3, -, l2, r4, hP, hPl, -, hb2⟩
 rw [show (1 : Int) % 2 = 1 from rfl] at hP ⊢
 obtain ⟨A3, c3, rfl, -, -⟩ := r3.mk_
 obtain ⟨A4, c4, rfl, -, -⟩ := r4.mk_
 have hal2 := balloc w2 (.cells #[.slice A3 sd2.length c3, .int .i64 1, .int .i64 0] 43)
 have x13 := Box.new w2 43 [.slice A3 sd2.length c3, .int .i64 1, .int .i64 0]
 change Box (w2.alloc (.cells #[.slice A3 sd2.length c3, .int .i64 1, .int .i64 0] 43)) _ _ _ at x13
 have hb12 := bgo hb2 hal2
 have hne : g11 ≠ w2.heap.size := Nat.ne_of_lt (x11.below hb2).lt
 replace x11 := x11.below hb12
 replace r1 := seesB_of r1 (Nat.le_refl _) hb12
 replace r2 := seesB_of r2 (Nat.le_refl _) hb12
 replace r3 := seesB_of r3 (Nat.le_refl _) hal2
 replace r4 := seesB_of r4 (Nat.le_refl _) hal2
 replace hbw := Lib.hid (bgo hbw.out hb12)
 replace l2 := Lib.hid l2
 replace hP := Lib.hid hP
 replace hPl := Lib.hid hPl
 clear hal2 hb2 hb12
 dsimp only
 go_upto_region 4 with (fail)
 generalize w2.alloc (.cells #[.slice A3 sd2.length c3, .int .i64 1, .int .i64 0] 43) = W2 at *
 generalize w2.heap.size = g13 at *
 go_wp2_with fail
 refine (hwf.out _).mono ?_
 rintro e w3 ⟨rfl, hw3⟩
 obtain rfl := hw3.symm
 dsimp only
 go_wp2_with fail
 refine (hwz.out _).mono ?_
 rintro e w3 ⟨rfl, hw3⟩
 obtain rfl := hw3.symm
 clear hwf hwz hwq hsg
 dsimp only
 go_upto_region 6 with (fail)
 have hnl := randK_len (q : Int) 32 (by omega)
 obtain ⟨S1, S2, e1, e2, L1, L2, hL, -, hI, hO⟩ := win_plain (sd := sd) (sd2 := sd2) (nn := randK (q : Int) 32) (f := (f : Int)) (t := (f : Int) + (z : Int)) (lo := (l : Int)) (hi := (l : Int) + (d : Int)) l1.out l2.out hnl (by have := hb.out; omega) (by have := hb.out; omega)
 rw [← hP.out] at e1 e2 hL hI hO
 rw [← hpk.out] at hI hO
 generalize (f : Int) + (z : Int) = t at *
 obtain ⟨h, hh⟩ : ∃ h : Int, (l : Int) + (d : Int) = h := ⟨_, rfl⟩
 rw [hh] at m2 hI hO
 have m3 : IntKind.i64.wrap ((l : Int) + (d : Int)) = h := by rw [hh, m2]
 replace hh := Lib.hid hh
 clear m2
 generalize (f : Int) = f at *
 generalize (l : Int) = l at *
 have hG1 := grant_any _ _ _ sd P 1 0 f t W2 r1 r4 (Nat.le_refl _) (by have := hPl.out; omega)
 rw [e1] at hG1
 unfold GrantP at hG1
 dsimp only at hG1
 have hG2 := Lib.hid (fun W u u2 (s1 : SeesB W W.heap.size u sd) (s2 : SeesB W W.heap.size u2 P) => grant_any _ u u2 sd P 1 1 0 2000 W s1 s2 (Nat.le_refl _) (by have := hPl.out; omega))
 replace hG1 := Lib.hid hG1
 replace e1 := Lib.hid e1
 replace e2 := Lib.hid e2
 replace L1 := Lib.hid L1
 replace L2 := Lib.hid L2
 replace hL := Lib.hid hL
 replace hI := Lib.hid hI
 replace hO := Lib.hid hO
 replace hnl := Lib.hid hnl
 generalize hnn : randK (q : Int) 32 = nn at *
 replace hnn := Lib.hid hnn
 obtain ⟨a0, a1, a2, b0, b1, b2⟩ := box3_cells x11
 go_wp2_with fail
 refine hG1.out.mono ?_
 rintro e w3 ⟨v5, v6, v7, rfl, t1, t2, t3, hb3⟩
 obtain ⟨A5, c5, rfl, -, -⟩ := t1.mk_
 obtain ⟨A6, c6, rfl, -, -⟩ := t2.mk_
 obtain ⟨A7, c7, rfl, -, -⟩ := t3.mk_
 replace x11 := x11.below hb3
 replace x13 := x13.below hb3
 replace hbw := Lib.hid (bgo hbw.out hb3)
 replace r2 := seesB_of r2 (Nat.le_refl _) hb3
 replace r3 := seesB_of r3 (Nat.le_refl _) hb3
 replace r4 := seesB_of r4 (Nat.le_refl _) hb3
 clear a0 a1 a2 b0 b1 b2 r1
 obtain ⟨V, hV, y11, y16, hbV, kV, oV⟩ := two_laid (x0 := .slice A5 sd.length c5) (x1 := .int .i64 1) (x2 := .int .i64 1) (y0 := .slice A6 P.length c6) (y1 := .int .i64 f) (y2 := .int .i64 t) (y3 := .slice A7 S1.length c7) (z0 := .slice none 0 0) (z1 := .int .i64 0) (z2 := .int .i64 0) (z3 := .slice none 0 0) (U := 82) hbw.out hg11.out x11 noS3 noS4
 have hal3 := balloc w3 (.cells #[.slice none 0 0, .int .i64 0, .int .i64 0, .slice none 0 0] 82)
 have xa := x11.below hal3
 have hne3 : w3.heap.size ≠ g11 := Ne.symm (Nat.ne_of_lt x11.lt)
 have xn := Box.new w3 82 [.slice none 0 0, .int .i64 0, .int .i64 0, .slice none 0 0]
 change Box (w3.alloc (.cells #[.slice none 0 0, .int .i64 0, .int .i64 0, .slice none 0 0] 82)) _ _ _ at xn
 have xm := box_aside (j := 2) (v := .int .i64 1) hne3 (box_aside (j := 1) (v := .int .i64 1) hne3 (box_aside (j := 0) (v := .slice A5 sd.length c5) hne3 xn))
 obtain ⟨a0, a1, a2, b0, b1, b2⟩ := box3_cells xa
 obtain ⟨e10, e11, e12, e13, d0, d1, d2, d3⟩ := box4_cells xm
 clear xa xn xm hal3
 dsimp only
 go_upto_region 7 with (fail)
 rw [← hV]
 replace t1 := kV _ _ t1
 replace t2 := kV _ _ t2
 replace t3 := kV _ _ t3
 replace r2 := kV _ _ r2
 replace r3 := kV _ _ r3
 replace r4 := kV _ _ r4
 replace x13 := oV _ _ _ (Ne.symm hne) x13
 replace hbw := Lib.hid hbV
 clear a0 a1 a2 b0 b1 b2 d0 d1 d2 d3 e10 e11 e12 e13 hV kV oV hbV x11 hG1 hne3
 generalize w3.heap.size = g16 at *
 have hG3 := hG2.out V _ _ t1 r4
 rw [e2.out] at hG3
 unfold GrantP at hG3
 dsimp only at hG3
 replace hG3 := Lib.hid hG3
 clear hG2
 obtain ⟨a0, a1, a2, -, -, -⟩ := box3_cells y11
 go_wp2_with fail
 refine hG3.out.mono ?_
 rintro e w4 ⟨v8, v9, v10, rfl, s1, s2, s3, hb4⟩
 obtain ⟨A8, c8, rfl, -, -⟩ := s1.mk_
 obtain ⟨A9, c9, rfl, -, -⟩ := s2.mk_
 obtain ⟨A10, c10, rfl, -, -⟩ := s3.mk_
 dsimp only
 go_upto_region 8 with (fail)
 have hal4 := balloc w4 (.cells #[.slice A8 sd.length c8, .int .i64 1, .int .i64 2] 43)
 have hal5 := balloc (w4.alloc (.cells #[.slice A8 sd.length c8, .int .i64 1, .int .i64 2] 43)) (.cells #[.slice A9 P.length c9, .int .i64 0, .int .i64 2000, .slice A10 S2.length c10] 82)
 have x19 := Box.new (w4.alloc (.cells #[.slice A8 sd.length c8, .int .i64 1, .int .i64 2] 43)) 82 [.slice A9 P.length c9, .int .i64 0, .int .i64 2000, .slice A10 S2.length c10]
 rw [World.size_alloc] at x19
 change Box ((w4.alloc (.cells #[.slice A8 sd.length c8, .int .i64 1, .int .i64 2] 43)).alloc (.cells #[.slice A9 P.length c9, .int .i64 0, .int .i64 2000, .slice A10 S2.length c10] 82)) _ _ _ at x19
 have hb45 := bgo hal4 hal5
 have hb5 := bgo hb4 hb45
 replace x13 := x13.below hb5
 replace y16 := y16.below hb5
 replace r2 := seesB_of r2 (Nat.le_refl _) hb5
 replace r3 := seesB_of r3 (Nat.le_refl _) hb5
 replace t2 := seesB_of t2 (Nat.le_refl _) hb5
 replace t3 := seesB_of t3 (Nat.le_refl _) hb5
 replace s2 := seesB_of s2 (Nat.le_refl _) hb45
 replace s3 := seesB_of s3 (Nat.le_refl _) hb45
 replace hbw := Lib.hid (bgo hbw.out hb5)
 clear hal4 hal5 hb45 hb5 hb4 a0 a1 a2 s1 t1 r4 y11 hG3
 generalize (w4.alloc (.cells #[.slice A8 sd.length c8, .int .i64 1, .int .i64 2] 43)).alloc (.cells #[.slice A9 P.length c9, .int .i64 0, .int .i64 2000, .slice A10 S2.length c10] 82) = W5 at *
 generalize w4.heap.size + 1 = g19 at *
 generalize w4.heap.size = g18 at *
 go_wp2_with fail
 refine (hwl.out _).mono ?_
 rintro e w6 ⟨rfl, hw6⟩
 obtain rfl := hw6.symm
 dsimp only
 go_upto_region 11 with (fail)
 have hal6 := balloc W5 (.cells #[.int .i64 l, .int .i64 0] 23)
 have x21 := Box.new W5 23 [.int .i64 l, .int .i64 0]
 change Box (W5.alloc (.cells #[.int .i64 l, .int .i64 0] 23)) _ _ _ at x21
 have hb67 := Lib.hid hal6
 generalize W5.alloc (.cells #[.int .i64 l, .int .i64 0] 23) = W6 at *
 generalize hg21 : W5.heap.size = g21 at x21 ⊢
 replace hg21 := Lib.hid hg21
 have k0 : W6.cell? ⟨g21, 0, none⟩ = some (.int .i64 l) := x21.cell 0
 have k1 : W6.cell? ⟨g21, 1, none⟩ = some (.int .i64 0) := x21.cell 1
 have f1 := x21.frozen 1
 clear hal6
 replace x21 := Lib.hid x21
 replace x13 := Lib.hid x13
 replace y16 := Lib.hid y16
 replace x19 := Lib.hid x19
 replace r2 := Lib.hid r2
 replace r3 := Lib.hid r3
 replace t2 := Lib.hid t2
 replace t3 := Lib.hid t3
 replace s2 := Lib.hid s2
 replace s3 := Lib.hid s3
 go_cut [12] (fun v12 W => v12 = .slice A2 pk.length c2 ∧ Box W g21 23 [.int .i64 l, .int .i64 h] ∧ Below W5.heap.size W5 W)
 case first =>
  go_region_with
   (go_at_call 12; (with_reducible refine (hwd.out _).mono ?_); rintro e w9 ⟨rfl, hw9⟩; subst hw9)
  all_goals
   go_wp2_with fail
   go_meet
   have z := x21.out.set 1 (.int .i64 h)
   simp only [List.set_cons_zero, List.set_cons_succ] at z
   have hz := hb67.out.setCell (p := ⟨g21, 1, none⟩) (Nat.le_of_eq hg21.out) (.int .i64 h)
   first
    | exact ⟨rfl, z, hz⟩
    | exact ⟨rfl, z, hz.drew⟩
 case rest =>
 obtain ⟨rfl, y21, hb7⟩ := hcut
 obtain ⟨w7, rfl⟩ : ∃ w7 : World, w7 = wc := ⟨_, rfl⟩
 clear k0 k1 f1 x21 hb67 hwd m3
 replace x13 := x13.out.below hb7
 replace y16 := y16.out.below hb7
 replace x19 := x19.out.below hb7
 replace r2 := seesB_of r2.out (Nat.le_refl _) hb7
 replace r3 := seesB_of r3.out (Nat.le_refl _) hb7
 replace t2 := seesB_of t2.out (Nat.le_refl _) hb7
 replace t3 := seesB_of t3.out (Nat.le_refl _) hb7
 replace s2 := seesB_of s2.out (Nat.le_refl _) hb7
 replace s3 := seesB_of s3.out (Nat.le_refl _) hb7
 replace hbw := Lib.hid (bgo hbw.out hb7)
 have hkr2 := hkr.out (q : Int)
 rw [hnn.out] at hkr2
 replace hkr2 := Lib.hid hkr2
 go_wp2_with fail
 refine (hkr2.out _).mono ?_
 rintro e w8 ⟨v11, rfl, s11, hb8, -⟩
 obtain ⟨A11, c11, rfl, -, -⟩ := s11.mk_
 dsimp only
 go_upto_region 13 with (fail)
 obtain ⟨k0, k1, -, -⟩ := box2_cells y21
 have p0 : w8.cell? ⟨g21, 0, none⟩ = some (.int .i64 l) := (y21.below hb8).cell 0
 have p1 : w8.cell? ⟨g21, 1, none⟩ = some (.int .i64 h) := (y21.below hb8).cell 1
 replace x13 := x13.below hb8
 replace y16 := y16.below hb8
 replace x19 := x19.below hb8
 replace y21 := y21.below hb8
 replace r2 := seesB_of r2 (Nat.le_refl _) hb8
 replace r3 := seesB_of r3 (Nat.le_refl _) hb8
 replace t2 := seesB_of t2 (Nat.le_refl _) hb8
 replace t3 := seesB_of t3 (Nat.le_refl _) hb8
 replace s2 := seesB_of s2 (Nat.le_refl _) hb8
 replace s3 := seesB_of s3 (Nat.le_refl _) hb8
 replace hbw := Lib.hid (bgo hbw.out hb8)
 clear k0 k1 hkr hkr2 hnn hb8 hwl hb7
 generalize hI0 : (decide (f ≤ l) && decide (h ≤ t)) = I at *
 go_cut [23] (fun v23 W => v23 = .bool I ∧ w8 = W)
 case first =>
  by_cases i1 : f ≤ l
  · by_cases i2 : h ≤ t
    · have : Hid (I = true) := by show _ = _; rw [← hI0, decide_eq_true i1, decide_eq_true i2]; rfl
      clear hI0
      go_wp2_with fail
      go_meet
      exact ⟨by rw [this.out], rfl⟩
    · have : Hid (I = false) := by show _ = _; rw [← hI0, decide_eq_true i1, decide_eq_false i2]; rfl
      clear hI0
      go_wp2_with fail
      go_meet
      exact ⟨by rw [this.out], rfl⟩
  · have : Hid (I = false) := by show _ = _; rw [← hI0, decide_eq_false i1]; rfl
    clear hI0
    go_wp2_with fail
    go_meet
    exact ⟨by rw [this.out], rfl⟩
 case rest =>
 obtain ⟨rfl, rfl⟩ := hcut
 clear p0 p1 hI0
 have hal9 := balloc w8 (.cells #[.slice A11 nn.length c11] 34)
 have sl := seesL_lit w8 34 (vs := [.slice A11 nn.length c11]) (ls := [nn]) ⟨s11, trivial⟩ (by simp [maxLen])
 have hD := danswer_any _ _ _ _ _ sd2 1 0 P f t S1 [nn] l h _ (seesB_of r3 (Nat.le_refl _) hal9) (seesB_of t2 (Nat.le_refl _) hal9) (seesB_of t3 (Nat.le_refl _) hal9) sl (Nat.le_refl _) (by have := hPl.out; omega) (by have := L1.out; omega) (by simp)
 have hE := Lib.hid (fun W u u2 u3 u4 (q1 : SeesB W W.heap.size u sd2) (q2 : SeesB W W.heap.size u2 P) (q3 : SeesB W W.heap.size u3 S2) (q4 : SeesL W W.heap.size u4 [nn]) => danswer_any _ u u2 u3 u4 sd2 1 0 P 0 2000 S2 [nn] l h W q1 q2 q3 q4 (Nat.le_refl _) (by have := hPl.out; omega) (by have := L2.out; omega) (by simp))
 obtain ⟨a0, a1, a2, -, -, -⟩ := box3_cells x13
 obtain ⟨b0, b1, b2, b3, -, -, -, -⟩ := box4_cells y16
 obtain ⟨k0, k1, -, -⟩ := box2_cells y21
 obtain ⟨k2, k3, -, -⟩ := box2_cells (y21.below hal9)
 cases I with
 | true =>
   obtain ⟨y, hR, hyl, hC, hLo, hHi⟩ := hI.out rfl
   rw [hR] at hD
   unfold DAnsP at hD
   dsimp only at hD
   replace hD := Lib.hid hD
   clear hO hI hE
   go_wp2_with fail
   refine hD.out.mono ?_
   rintro e w9 ⟨v12, v13, v14, v15, rfl, z1, z2, z3, z4, hb9⟩
   obtain ⟨A12, c12, rfl, -, -⟩ := z1.mk_
   obtain ⟨A13, c13, rfl, -, -⟩ := z2.mk_
   obtain ⟨A14, c14, rfl, -, -⟩ := z3.mk_
   obtain ⟨A15, c15, rfl, -, -⟩ := z4.mk_
   rw [List.length_singleton] at z4 ⊢
   have hal10 := balloc w9 (.cells #[.slice A12 sd2.length c12, .int .i64 1, .int .i64 1, .slice A13 P.length c13, .int .i64 f, .int .i64 t, .slice A14 S1.length c14] 84)
   have hb90 := bgo (bgo hal9 hb9) hal10
   replace z4 := seesL_of z4 (Nat.le_refl _) hal10
   obtain ⟨bb, oo, rfl, -, hz⟩ := z4.at_ (by simp)
   obtain ⟨A16, c16, z5, -, -, z6⟩ := hz 0 (by simp)
   rw [show [y].getD 0 [] = y from rfl, Nat.add_zero] at z5
   rw [show [y].getD 0 [] = y from rfl] at z6
   replace y21 := y21.below hb90
   replace r2 := seesB_of r2 (Nat.le_refl _) hb90
   replace s11 := seesB_of s11 (Nat.le_refl _) hb90
   replace hbw := Lib.hid (bgo hbw.out hb90)
   clear a0 a1 a2 b0 b1 b2 b3 k0 k1 k2 k3 hD z1 z2 z3 z4 hz hal9 hal10 hb9 hb90 x13 y16 x19 r3 t2 t3 s2 s3 sl hR
   dsimp only
   go_upto_region 15 with (fail)
   generalize w9.alloc (.cells #[.slice A12 sd2.length c12, .int .i64 1, .int .i64 1, .slice A13 P.length c13, .int .i64 f, .int .i64 t, .slice A14 S1.length c14] 84) = W9 at *
   have hvf := dverify_any _ _ _ _ pk nn y W9 r2 s11 z6 (Nat.le_refl _) (by omega)
   unfold DVerP at hvf
   rw [hC, hLo, hHi] at hvf
   replace hvf := Lib.hid hvf
   replace hyl := Lib.hid hyl
   clear hC hLo hHi z6 r2 s11
   go_wp2_with fail
   refine hvf.out.mono ?_
   rintro e w10 ⟨rfl, hb10⟩
   have hal11 := balloc w10 (.cells #[.int .i64 l, .int .i64 h] 23)
   have x27 := Box.new w10 23 [.int .i64 l, .int .i64 h]
   change Box (w10.alloc (.cells #[.int .i64 l, .int .i64 h] 23)) _ _ _ at x27
   have hb101 := bgo hb10 hal11
   replace y21 := y21.below hb101
   replace hbw := Lib.hid (bgo hbw.out hb101)
   clear hb10 hal11 hb101 hvf z5
   dsimp only
   go_upto_region 21 with (fail)
   generalize w10.alloc (.cells #[.int .i64 l, .int .i64 h] 23) = W10 at *
   generalize w10.heap.size = g27 at *
   go_wp2_with fail
   refine (hkn.out _).mono ?_
   rintro e w11 ⟨rfl, hb11⟩
   replace hbw := Lib.hid (bgo hbw.out hb11)
   obtain ⟨k0, k1, -, -⟩ := box2_cells (y21.below hb11)
   obtain ⟨k2, k3, -, -⟩ := box2_cells (x27.below hb11)
   clear y21 x27 hb11
   dsimp only
   go_wp2_with fail
   go_ret
   exact ⟨rfl, hbw.out⟩
 | false =>
   obtain ⟨hR, y, hR2, hy7, hyl, hyl2, hC⟩ := hO.out rfl
   rw [hR] at hD
   unfold DAnsP at hD
   unfold noGrant at hD
   dsimp only at hD
   replace hD := Lib.hid hD
   clear hO hI
   go_wp2_with fail
   refine hD.out.mono ?_
   rintro e w9 ⟨v12, v13, v14, v15, rfl, z1, z2, z3, z4, hb9⟩
   obtain ⟨A12, c12, rfl, -, -⟩ := z1.mk_
   obtain ⟨A13, c13, rfl, -, -⟩ := z2.mk_
   obtain ⟨A14, c14, rfl, -, -⟩ := z3.mk_
   obtain ⟨A15, c15, rfl, -, -⟩ := z4.mk_
   have hal10 := balloc w9 (.cells #[.slice A12 ([] : Bs).length c12, .int .i64 0, .int .i64 0, .slice A13 ([] : Bs).length c13, .int .i64 0, .int .i64 0, .slice A14 ([] : Bs).length c14] 84)
   rw [List.length_nil] at hal10
   have hb90 := bgo (bgo hal9 hb9) hal10
   replace x13 := x13.below hb90
   replace y16 := y16.below hb90
   replace x19 := x19.below hb90
   replace y21 := y21.below hb90
   replace r2 := seesB_of r2 (Nat.le_refl _) hb90
   replace r3 := seesB_of r3 (Nat.le_refl _) hb90
   replace t2 := seesB_of t2 (Nat.le_refl _) hb90
   replace t3 := seesB_of t3 (Nat.le_refl _) hb90
   replace s2 := seesB_of s2 (Nat.le_refl _) hb90
   replace s3 := seesB_of s3 (Nat.le_refl _) hb90
   replace s11 := seesB_of s11 (Nat.le_refl _) hb90
   replace hbw := Lib.hid (bgo hbw.out hb90)
   clear a0 a1 a2 b0 b1 b2 b3 k0 k1 k2 k3 hD z1 z2 z3 z4 hal9 hal10 hb9 hb90 sl hR
   dsimp only
   go_upto_region 22 with (fail)
   generalize w9.alloc (.cells #[.slice A12 0 c12, .int .i64 0, .int .i64 0, .slice A13 0 c13, .int .i64 0, .int .i64 0, .slice A14 0 c14] 84) = W9 at *
   have hal9 := balloc W9 (.cells #[.slice A11 nn.length c11] 34)
   have sl := seesL_lit W9 34 (vs := [.slice A11 nn.length c11]) (ls := [nn]) ⟨s11, trivial⟩ (by simp [maxLen])
   have hD := hE.out _ _ _ _ _ (seesB_of r3 (Nat.le_refl _) hal9) (seesB_of s2 (Nat.le_refl _) hal9) (seesB_of s3 (Nat.le_refl _) hal9) sl
   rw [hR2] at hD
   unfold DAnsP at hD
   dsimp only at hD
   replace hD := Lib.hid hD
   obtain ⟨a0, a1, a2, -, -, -⟩ := box3_cells x13
   obtain ⟨b0, b1, b2, b3, -, -, -, -⟩ := box4_cells x19
   obtain ⟨k0, k1, -, -⟩ := box2_cells y21
   obtain ⟨k2, k3, -, -⟩ := box2_cells (y21.below hal9)
   replace hC := Lib.hid hC
   replace hy7 := Lib.hid hy7
   replace hyl := Lib.hid hyl
   replace hyl2 := Lib.hid hyl2
   clear hE hR2
   go_wp2_with fail
   refine hD.out.mono ?_
   rintro e w10 ⟨v16, v17, v18, v19, rfl, z1, z2, z3, z4, hb9⟩
   obtain ⟨A22, c22, rfl, -, -⟩ := z1.mk_
   obtain ⟨A23, c23, rfl, -, -⟩ := z2.mk_
   obtain ⟨A24, c24, rfl, -, -⟩ := z3.mk_
   obtain ⟨A25, c25, rfl, -, -⟩ := z4.mk_
   rw [List.length_singleton] at z4 ⊢
   have hal10 := balloc w10 (.cells #[.slice A22 sd2.length c22, .int .i64 1, .int .i64 1, .slice A23 P.length c23, .int .i64 0, .int .i64 2000, .slice A24 S2.length c24] 84)
   have hb90 := bgo (bgo hal9 hb9) hal10
   replace z4 := seesL_of z4 (Nat.le_refl _) hal10
   obtain ⟨bb, oo, rfl, hbb, hz⟩ := z4.at_ (by simp)
   obtain ⟨A26, c26, z5, -, -, z6⟩ := hz 0 (by simp)
   rw [show [y].getD 0 [] = y from rfl, Nat.add_zero] at z5
   rw [show [y].getD 0 [] = y from rfl] at z6
   replace y16 := y16.below hb90
   replace r2 := seesB_of r2 (Nat.le_refl _) hb90
   replace t2 := seesB_of t2 (Nat.le_refl _) hb90
   replace t3 := seesB_of t3 (Nat.le_refl _) hb90
   replace s11 := seesB_of s11 (Nat.le_refl _) hb90
   replace hbw := Lib.hid (bgo hbw.out hb90)
   clear a0 a1 a2 b0 b1 b2 b3 k0 k1 k2 k3 hD z1 z2 z3 z4 hz hal9 hal10 hb9 hb90 x13 y21 x19 r3 s2 s3 sl
   dsimp only
   go_upto_region 23 with (fail)
   generalize w10.alloc (.cells #[.slice A22 sd2.length c22, .int .i64 1, .int .i64 1, .slice A23 P.length c23, .int .i64 0, .int .i64 2000, .slice A24 S2.length c24] 84) = W10 at *
   have i7 : ¬ ((y.length : Int) < 700) := by have := hy7.out; omega
   go_upto_region 27 with (fail)
   have hsw := Lib.hid (fun W (hW : Below W10.heap.size W10 W) => kswap_any _ _ _ y P S1 f t W (seesB_of z6 (Nat.le_refl _) hW) (seesB_of t2 (Nat.le_refl _) hW) (seesB_of t3 (Nat.le_refl _) hW) (by have := hPl.out; omega) (by have := L1.out; omega) hL.out (by have := hy7.out; omega) hyl.out)
   generalize y.take (y.length - 672) ++ dencB P f t S1 = x at *
   have hvf := Lib.hid (fun W u (hW : Below W10.heap.size W10 W) (hx : SeesB W W.heap.size u x) => dverify_any _ _ _ u pk nn x W (seesB_of r2 (Nat.le_refl _) hW) (seesB_of s11 (Nat.le_refl _) hW) hx (Nat.le_refl _) (by have := hyl2.out; omega))
   unfold DVerP at hvf
   rw [hC.out] at hvf
   generalize dverLo pk nn x = xlo at *
   generalize dverHi pk nn x = xhi at *
   have h16 : g16 < W10.heap.size := y16.lt
   have K : Hid (∀ W : World, Below W10.heap.size W10 W → W.cell? ⟨bb, oo, none⟩ = some (.slice A26 y.length c26) ∧ W.cell? ⟨g16, 0, none⟩ = some (.slice A6 P.length c6) ∧ W.cell? ⟨g16, 1, none⟩ = some (.int .i64 f) ∧ W.cell? ⟨g16, 2, none⟩ = some (.int .i64 t) ∧ W.cell? ⟨g16, 3, none⟩ = some (.slice A7 S1.length c7)) := fun W hW => by
    obtain ⟨q0, q1, q2, q3, -, -, -, -⟩ := box4_cells (y16.below hW)
    exact ⟨(hW.cell (p := ⟨bb, oo, none⟩) hbb).trans z5, q0, q1, q2, q3⟩
   have K2 : Hid (∀ (W : World) (g : Nat) (a b : Value), W10.heap.size ≤ g → Below W10.heap.size W10 W → ((W.setCell ⟨g, 0, none⟩ a).setCell ⟨g, 1, none⟩ b).cell? ⟨bb, oo, none⟩ = some (.slice A26 y.length c26) ∧ ((W.setCell ⟨g, 0, none⟩ a).setCell ⟨g, 1, none⟩ b).cell? ⟨g16, 0, none⟩ = some (.slice A6 P.length c6) ∧ ((W.setCell ⟨g, 0, none⟩ a).setCell ⟨g, 1, none⟩ b).cell? ⟨g16, 1, none⟩ = some (.int .i64 f) ∧ ((W.setCell ⟨g, 0, none⟩ a).setCell ⟨g, 1, none⟩ b).cell? ⟨g16, 2, none⟩ = some (.int .i64 t) ∧ ((W.setCell ⟨g, 0, none⟩ a).setCell ⟨g, 1, none⟩ b).cell? ⟨g16, 3, none⟩ = some (.slice A7 S1.length c7)) := fun W g a b hg hW => by
    have hW2 := (hW.setCell (p := ⟨g, 0, none⟩) hg a).setCell (p := ⟨g, 1, none⟩) hg b
    obtain ⟨q0, q1, q2, q3, -, -, -, -⟩ := box4_cells (y16.below hW2)
    exact ⟨(hW2.cell (p := ⟨bb, oo, none⟩) hbb).trans z5, q0, q1, q2, q3⟩
   obtain ⟨k5, k0, k1, k2, k3⟩ := K.out W10 (Below.refl _ _)
   have hend : Hid (∀ (W : World) (g : Nat) (a b : Value), W10.heap.size ≤ g → Below W10.heap.size W10 W → Below W10.heap.size W10 ((W.setCell ⟨g, 0, none⟩ a).setCell ⟨g, 1, none⟩ b)) := fun W g a b hg hW => (hW.setCell (p := ⟨g, 0, none⟩) hg a).setCell (p := ⟨g, 1, none⟩) hg b
   clear z6 t2 t3 r2 s11 y16 z5 hbb h16
   go_cut [33] (fun v33 W => v33 = .int .i64 25 ∧ Below W10.heap.size W10 W)
   case first =>
    have sA : True := trivial
    have sB : True := trivial
    have hgB : True := trivial
    obtain ⟨wA, -⟩ : ∃ W : World, W = W10 := ⟨_, rfl⟩
    obtain ⟨wB, -⟩ : ∃ W : World, W = W10 := ⟨_, rfl⟩
    go_region_held3 (fun W' : World => W'.cell? ⟨bb, oo, none⟩ = some (.slice A26 y.length c26) ∧ W'.cell? ⟨g16, 0, none⟩ = some (.slice A6 P.length c6) ∧ W'.cell? ⟨g16, 1, none⟩ = some (.int .i64 f) ∧ W'.cell? ⟨g16, 2, none⟩ = some (.int .i64 t) ∧ W'.cell? ⟨g16, 3, none⟩ = some (.slice A7 S1.length c7))
     (first | (with_reducible exact K2.out _ _ _ _ (Nat.le_refl _) (by (repeat (first | exact Below.refl _ _ | (refine bgo ?_ (balloc _ _)) | (refine bgo ?_ (bdrew _)) | (refine bgo ?_ (by assumption)))))) | (with_reducible exact K2.out _ _ _ _ hgB (by (repeat (first | exact Below.refl _ _ | (refine bgo ?_ (balloc _ _)) | (refine bgo ?_ (bdrew _)) | (refine bgo ?_ (by assumption)))))) | (with_reducible exact K.out _ (by (repeat (first | exact Below.refl _ _ | (refine bgo ?_ (balloc _ _)) | (refine bgo ?_ (bdrew _)) | (refine bgo ?_ (by assumption)))))) | (go_keep; done))
     (first
      | (go_at_call 54; (with_reducible refine (hsw.out (W10.alloc (.cells #[.int .i64 0, .int .i64 0] 23)).drew (by (repeat (first | exact Below.refl _ _ | (refine bgo ?_ (balloc _ _)) | (refine bgo ?_ (bdrew _)) | (refine bgo ?_ (by assumption)))))).mono ?_); rintro e wA ⟨v20, rfl, o20, hbA⟩
         have sA := o20.sees
         have bz := ((Box.new W10 23 [.int .i64 0, .int .i64 0]).below (bdrew _)).below hbA
         obtain ⟨A20, c20, rfl, -, -⟩ := sA.mk_)
      | (go_at_call 54; (with_reducible refine (hsw.out W10.drew (by (repeat (first | exact Below.refl _ _ | (refine bgo ?_ (balloc _ _)) | (refine bgo ?_ (bdrew _)) | (refine bgo ?_ (by assumption)))))).mono ?_); rintro e wB ⟨v20, rfl, o20, hbB⟩
         have sB := o20.sees
         have hgB : W10.heap.size ≤ wB.heap.size := hbB.size
         obtain ⟨A20, c20, rfl, -, -⟩ := sB.mk_)
      | (go_at_call 51; (with_reducible refine (hvf.out wA _ (by (repeat (first | exact Below.refl _ _ | (refine bgo ?_ (balloc _ _)) | (refine bgo ?_ (bdrew _)) | (refine bgo ?_ (by assumption))))) sA).mono ?_); rintro e w13 ⟨rfl, hb13⟩
         have bz2 := bz.below hb13
         obtain ⟨y0, y1, f0, f1⟩ := box2_cells bz2)
      | (go_at_call 51; (with_reducible refine (hvf.out wB _ (by (repeat (first | exact Below.refl _ _ | (refine bgo ?_ (balloc _ _)) | (refine bgo ?_ (bdrew _)) | (refine bgo ?_ (by assumption))))) sB).mono ?_); rintro e w13 ⟨rfl, hb13⟩)
      | (go_at_call 51; (with_reducible refine (hvf.out (wB.alloc (.cells #[.int .i64 0, .int .i64 0] 23)) _ (by (repeat (first | exact Below.refl _ _ | (refine bgo ?_ (balloc _ _)) | (refine bgo ?_ (bdrew _)) | (refine bgo ?_ (by assumption))))) (seesB_of sB (Nat.le_refl _) (balloc _ _))).mono ?_); rintro e w13 ⟨rfl, hb13⟩
         have bz2 := (Box.new wB 23 [.int .i64 0, .int .i64 0]).below hb13
         obtain ⟨y0, y1, f0, f1⟩ := box2_cells bz2))
    all_goals
     go_wp2_with fail
     go_meet
     refine ⟨rfl, ?_⟩
     first
      | (with_reducible exact hend.out _ _ _ _ (Nat.le_refl _) (by (repeat (first | exact Below.refl _ _ | (refine bgo ?_ (balloc _ _)) | (refine bgo ?_ (bdrew _)) | (refine bgo ?_ (by assumption))))))
      | (with_reducible exact hend.out _ _ _ _ hgB (by (repeat (first | exact Below.refl _ _ | (refine bgo ?_ (balloc _ _)) | (refine bgo ?_ (bdrew _)) | (refine bgo ?_ (by assumption))))))
      | ((repeat (first | exact Below.refl _ _ | (refine bgo ?_ (balloc _ _)) | (refine bgo ?_ (bdrew _)) | (refine bgo ?_ (by assumption)))); done)
   case rest =>
   obtain ⟨rfl, hb12⟩ := hcut
   obtain ⟨w12, rfl⟩ : ∃ w12 : World, w12 = wc := ⟨_, rfl⟩
   replace hbw := Lib.hid (bgo hbw.out hb12)
   clear hsw hvf K k5 k0 k1 k2 k3 hb12
   go_wp2_with fail
   refine (hkn.out _).mono ?_
   rintro e w13 ⟨rfl, hb13⟩
   replace hbw := Lib.hid (bgo hbw.out hb13)
   dsimp only
   go_wp2_with fail
   go_ret
   exact ⟨rfl, hbw.out⟩
end Go.Proofs.YtgehkgjllhkhoaaGreat

/- The walk of the statement DelegateWrites: true. No conditions. -/
import Derived.Test.YtkefbjpdpcmpnaaGreatDDec
import Derived.Test.YtkefbjpdpcmpnaaGreatRDDec
import Derived.Test.YtkefbjpdpcmpnaaGreatRDEnc
import Derived.Test.YtkefbjpdpcmpnaaGreatForth
import Derived.Test.YtkefbjpdpcmpnaaGreatGranted
import Derived.BigQuiet
namespace Go.Proofs.YtkefbjpdpcmpnaaGreat
open Go Go.RowKit
set_option linter.unusedVariables false
set_option linter.unusedSimpArgs false
attribute [local go_sem ↓] Go.wp_at_zero Go.wp_at_succ
theorem span_550 : unOk (spanB 5 50) = true ∧ unLo (spanB 5 50) = 5 ∧ unHi (spanB 5 50) = 50 ∧ vS 5 50 = true := by
  have h1 := un_lo 5 50 (by omega) (by omega)
  have h2 := un_hi 5 50 (by omega) (by omega)
  have h3 : vS 5 50 = true := by decide
  refine ⟨?_, h1, h2, h3⟩
  unfold unOk
  rw [h1, h2, h3, decide_eq_true (spanB_len 5 50)]
  rfl
theorem made_550 (pk S : Bs) (hp : pk.length = 32) (hs : fitsG S = true) : dencC pk 5 50 S = 0 ∧ delC (dencB pk 5 50 S) = 0 ∧ delP (dencB pk 5 50 S) = pk ∧ delLo (dencB pk 5 50 S) = 5 ∧ delHi (dencB pk 5 50 S) = 50 ∧ delS (dencB pk 5 50 S) = S := by
  obtain ⟨s1, s2, s3, s4⟩ := span_550
  have h0 : dencC pk 5 50 S = 0 := by
    unfold dencC
    rw [if_pos hp, s4, hs]
    rfl
  obtain ⟨d1, d2, d3, d4⟩ := del_forth pk 5 50 S h0 s1
  refine ⟨h0, d1, ?_, ?_, ?_, ?_⟩
  · rw [delP, if_pos d1, d2]
  · rw [delLo, if_pos d1, d4, s2]
  · rw [delHi, if_pos d1, d4, s3]
  · rw [delS, if_pos d1, d3]; rfl
theorem denc_len (p : Bs) (f t : Int) (s : Bs) : (dencB p f t s).length ≤ 2048 := by
  by_cases h : dencC p f t s = 0
  · obtain ⟨e1, e2⟩ := dtags_enc p f t s h
    rw [← e2]
    unfold encT
    rw [if_pos e1]
    unfold encC at e1
    split at e1
    · omega
    split at e1
    · split at e1
      · omega
      · omega
    · omega
  · rw [dencB, if_neg h]; simp
theorem box7_del {W : World} {g : Nat} {T : TypeId} {a b c d e f h : Value} (x : Box W g T [a, b, c, d, e, f, h]) : W.cell? ⟨g, 3, none⟩ = some d ∧ W.cell? ⟨g, 4, none⟩ = some e ∧ W.cell? ⟨g, 5, none⟩ = some f ∧ W.cell? ⟨g, 6, none⟩ = some h := ⟨x.cell 3, x.cell 4, x.cell 5, x.cell 6⟩
set_option maxRecDepth 100000 in
set_option maxHeartbeats 8000000 in
theorem dwrites_law (v : Int) (wf0 : (Lit.int .i64 v).wf = true) (at_ : Int) (wf1 : (Lit.int .i64 at_).wf = true) (by_ : Int) (wf2 : (Lit.int .i64 by_).wf = true) (B : Nat) (u : Value) (l : Bs) (w : World) (hu : SeesB w B u l) (hB : B ≤ w.heap.size)
    (B2 : Nat) (u2 : Value) (p : Bs) (hu2 : SeesB w B2 u2 p) (hB2 : B2 ≤ w.heap.size) (f t : Int) (wff : (Lit.int .i64 f).wf = true) (wft : (Lit.int .i64 t).wf = true) (u3 : Value) (s : Bs) (hu3 : SeesB w B2 u3 s) :
    Calls Tryz.prog 4 #[.int .i64 v, .int .i64 at_, .int .i64 by_, u, .agg #[u2, .int .i64 f, .int .i64 t, u3]] w fun e w' => e = .returned (.bool true) ∧ Below w.heap.size w w' := by
  obtain ⟨Al, cl, rfl, -, -⟩ := hu.mk_
  obtain ⟨Ap, cp, rfl, -, -⟩ := hu2.mk_
  obtain ⟨As, cs, rfl, -, -⟩ := hu3.mk_
  clear wf0 wf1 wf2 wff wft
  have hal := balloc w (.cells #[.slice Ap p.length cp, .int .i64 f, .int .i64 t, .slice As s.length cs] 37)
  have x9 := Box.new w 37 [.slice Ap p.length cp, .int .i64 f, .int .i64 t, .slice As s.length cs]
  change Box (w.alloc (.cells #[.slice Ap p.length cp, .int .i64 f, .int .i64 t, .slice As s.length cs] 37)) _ _ _ at x9
  have sl := seesB_of hu hB hal
  have sp := seesB_of hu2 hB2 hal
  have ss := seesB_of hu3 hB2 hal
  have hkn := Lib.hid (fun W => dknown_any W)
  obtain ⟨y0, y1, y2, y3, -, -, -, -⟩ := box4_cells x9
  clear hu hu2 hu3
  by_cases h1 : l.length ≤ 900
  rotate_left
  · have i1 : (900 : Int) < (l.length : Int) := by omega
    clear sl sp ss
    go_enter Tryz.func4, Tryz.ntmps4
    go_wp2_with fail
    refine (hkn.out _).mono ?_
    rintro e w1 ⟨rfl, hb1⟩
    dsimp only
    go_wp2_with fail
    go_ret
    exact ⟨rfl, bgo hal hb1⟩
  have i1 : ¬ (900 : Int) < (l.length : Int) := by omega
  by_cases h2 : p.length ≤ 100
  rotate_left
  · have i2 : (100 : Int) < (p.length : Int) := by omega
    clear sl sp ss
    go_enter Tryz.func4, Tryz.ntmps4
    go_wp2_with fail
    refine (hkn.out _).mono ?_
    rintro e w1 ⟨rfl, hb1⟩
    dsimp only
    go_wp2_with fail
    go_ret
    exact ⟨rfl, bgo hal hb1⟩
  have i2 : ¬ (100 : Int) < (p.length : Int) := by omega
  by_cases h3 : s.length ≤ 900
  rotate_left
  · have i3 : (900 : Int) < (s.length : Int) := by omega
    clear sl sp ss
    go_enter Tryz.func4, Tryz.ntmps4
    go_wp2_with fail
    refine (hkn.out _).mono ?_
    rintro e w1 ⟨rfl, hb1⟩
    dsimp only
    go_wp2_with fail
    go_ret
    exact ⟨rfl, bgo hal hb1⟩
  have i3 : ¬ (900 : Int) < (s.length : Int) := by omega
  have hgr := Lib.hid (fun W => kgranted_any v 0 5 50 W span_550.2.2.2)
  have hde := Lib.hid (fun W u u2 (a b : Bs) (x y : Int) (h : SeesB W W.heap.size u a) (h' : SeesB W W.heap.size u2 b) (ha : a.length ≤ 1048576) (hb : b.length ≤ 1048576) => dencode_any W.heap.size u u2 a b x y W h h' (Nat.le_refl _) ha hb)
  have hdd := Lib.hid (fun W u (a : Bs) (h : SeesB W W.heap.size u a) (ha : a.length ≤ 1048576) => ddecode_any W.heap.size u a W h (Nat.le_refl _) ha)
  have hrd := Lib.hid (fun W u (a : Bs) (h : SeesB W W.heap.size u a) (ha : a.length ≤ 1048576) => rddecode_any W.heap.size u a W h (Nat.le_refl _) ha)
  have hsm := Lib.hid (fun u1 u2 u3 u4 (p s : Bs) (f t : Int) W h1 h2 h3 h4 => rdsame_any u1 u2 u3 u4 p s f t W h1 h2 h3 h4)
  replace h1 := Lib.hid h1
  replace h2 := Lib.hid h2
  replace h3 := Lib.hid h3
  replace hal := Lib.hid hal
  replace sl := Lib.hid sl
  replace sp := Lib.hid sp
  replace ss := Lib.hid ss
  go_enter Tryz.func4, Tryz.ntmps4
  go_upto_region 1 with (fail)
  generalize w.alloc (.cells #[.slice Ap p.length cp, .int .i64 f, .int .i64 t, .slice As s.length cs] 37) = W0 at *
  generalize hgg : w.heap.size = g9 at x9 y0 y1 y2 y3 ⊢
  replace hgg := Lib.hid hgg
  go_upto_region 3 with (fail)
  clear y0 y1 y2 y3 i1 i2 i3
  go_wp2_with fail
  refine (hgr.out _).mono ?_
  rintro e w1 ⟨v1, v2, v3, v4, sd2, pk, sd1, pk1, rfl, r1, -, -, hpl, r2, r3, -, -, -, r4, hb1⟩
  generalize hS : sigG sd1 0 0 (tGrant ++ pk ++ spanB 5 50) = S at *
  have hfS : fitsG S = true := by rw [← hS]; exact head_sig _ _ _ _ (by omega)
  have hlS := head_le S hfS
  obtain ⟨A1, c1, rfl, -, -⟩ := r1.mk_
  obtain ⟨A2, c2, rfl, -, -⟩ := r2.mk_
  obtain ⟨A3, c3, rfl, -, -⟩ := r3.mk_
  obtain ⟨A4, c4, rfl, -, -⟩ := r4.mk_
  rw [show (0 : Int) % 2 = 0 from rfl]
  have hal1 := balloc w1 (.cells #[.slice A1 sd2.length c1, .int .i64 0, .int .i64 0, .slice A2 pk.length c2, .int .i64 5, .int .i64 50, .slice A3 S.length c3] 41)
  have x11 := Box.new w1 41 [.slice A1 sd2.length c1, .int .i64 0, .int .i64 0, .slice A2 pk.length c2, .int .i64 5, .int .i64 50, .slice A3 S.length c3]
  change Box (w1.alloc (.cells #[.slice A1 sd2.length c1, .int .i64 0, .int .i64 0, .slice A2 pk.length c2, .int .i64 5, .int .i64 50, .slice A3 S.length c3] 41)) _ _ _ at x11
  have hb2 := bgo hb1 hal1
  have t2 := seesB_of r2 (Nat.le_refl _) hal1
  have t3 := seesB_of r3 (Nat.le_refl _) hal1
  replace x9 := x9.below hb2
  replace sl := Lib.hid (seesB_of sl.out (Nat.le_refl _) hb2)
  replace sp := Lib.hid (seesB_of sp.out (Nat.le_refl _) hb2)
  replace ss := Lib.hid (seesB_of ss.out (Nat.le_refl _) hb2)
  have hbw := Lib.hid (bgo hal.out hb2)
  have hmk := made_550 pk S hpl hfS
  replace hS := Lib.hid hS
  replace hfS := Lib.hid hfS
  replace hpl := Lib.hid hpl
  replace hlS := Lib.hid hlS
  clear r1 r2 r3 r4 hal1 hb1 hb2 hgr hal
  dsimp only
  go_upto_region 4 with (fail)
  generalize w1.alloc (.cells #[.slice A1 sd2.length c1, .int .i64 0, .int .i64 0, .slice A2 pk.length c2, .int .i64 5, .int .i64 50, .slice A3 S.length c3] 41) = W1 at *
  generalize w1.heap.size = g11 at *
  obtain ⟨z0, z1, z2, z3⟩ := box7_del x11
  have he1 := hde.out W1 _ _ pk S 5 50 t2 t3 (by have := hpl.out; omega) (by have := hlS.out; omega)
  unfold DEncP at he1
  rw [hmk.1] at he1
  have hbl := denc_len pk 5 50 S
  obtain ⟨-, m1, m2, m3, m4, m5⟩ := hmk
  generalize dencB pk 5 50 S = b at *
  replace he1 := Lib.hid he1
  go_wp2_with fail
  refine he1.out.mono ?_
  rintro e w2 ⟨v5, rfl, o5, hb2⟩
  obtain ⟨A5, c5, rfl, hc5, -⟩ := o5.sees.mk_
  have s5 := o5.sees
  replace x11 := x11.below hb2
  replace x9 := x9.below hb2
  replace t2 := seesB_of t2 (Nat.le_refl _) hb2
  replace t3 := seesB_of t3 (Nat.le_refl _) hb2
  replace sl := Lib.hid (seesB_of sl.out (Nat.le_refl _) hb2)
  replace sp := Lib.hid (seesB_of sp.out (Nat.le_refl _) hb2)
  replace ss := Lib.hid (seesB_of ss.out (Nat.le_refl _) hb2)
  replace hbw := Lib.hid (bgo hbw.out hb2)
  have hd1 := hdd.out w2 _ b s5 (by omega)
  unfold DDecP at hd1
  rw [m1, m2, m3, m4, m5] at hd1
  replace hd1 := Lib.hid hd1
  clear z0 z1 z2 z3 he1 o5 hb2 m1 m2 m3 m4 m5
  dsimp only
  go_wp2_with fail
  refine hd1.out.mono ?_
  rintro e w3 ⟨v6, v7, rfl, s6, s7, hb3⟩
  obtain ⟨A6, c6, rfl, -, -⟩ := s6.mk_
  obtain ⟨A7, c7, rfl, -, -⟩ := s7.mk_
  have hal3 := balloc w3 (.cells #[.slice A6 pk.length c6, .int .i64 5, .int .i64 50, .slice A7 S.length c7] 37)
  have x15 := Box.new w3 37 [.slice A6 pk.length c6, .int .i64 5, .int .i64 50, .slice A7 S.length c7]
  change Box (w3.alloc (.cells #[.slice A6 pk.length c6, .int .i64 5, .int .i64 50, .slice A7 S.length c7] 37)) _ _ _ at x15
  have hb4 := bgo hb3 hal3
  replace x11 := x11.below hb4
  replace x9 := x9.below hb4
  replace t2 := seesB_of t2 (Nat.le_refl _) hb4
  replace t3 := seesB_of t3 (Nat.le_refl _) hb4
  replace sl := Lib.hid (seesB_of sl.out (Nat.le_refl _) hb4)
  replace sp := Lib.hid (seesB_of sp.out (Nat.le_refl _) hb4)
  replace ss := Lib.hid (seesB_of ss.out (Nat.le_refl _) hb4)
  replace s5 := seesB_of s5 (Nat.le_refl _) hb4
  replace s6 := seesB_of s6 (Nat.le_refl _) hal3
  replace s7 := seesB_of s7 (Nat.le_refl _) hal3
  replace hbw := Lib.hid (bgo hbw.out hb4)
  clear hd1 hb3 hal3 hb4
  dsimp only
  go_upto_region 6 with (fail)
  generalize w3.alloc (.cells #[.slice A6 pk.length c6, .int .i64 5, .int .i64 50, .slice A7 S.length c7] 37) = W3 at *
  generalize w3.heap.size = g15 at *
  obtain ⟨z0, z1, z2, z3⟩ := box7_del x11
  obtain ⟨q0, q1, q2, q3, -, -, -, -⟩ := box4_cells x15
  have hs1 := Lib.hid (hsm.out _ _ _ _ pk S 5 50 W3 s6 s7 t2 t3)
  go_wp2_with fail
  refine hs1.out.mono ?_
  rintro e w4 ⟨rfl, hb4⟩
  replace x9 := x9.below hb4
  replace sl := Lib.hid (seesB_of sl.out (Nat.le_refl _) hb4)
  replace sp := Lib.hid (seesB_of sp.out (Nat.le_refl _) hb4)
  replace ss := Lib.hid (seesB_of ss.out (Nat.le_refl _) hb4)
  replace s5 := seesB_of s5 (Nat.le_refl _) hb4
  replace hbw := Lib.hid (bgo hbw.out hb4)
  clear z0 z1 z2 z3 q0 q1 q2 q3 x11 x15 s6 s7 t2 t3 hs1 hb4
  have hfl := Lib.hid (kflip_any _ b at_ by_ w4 s5 (by omega))
  have hwi := Lib.hid (fun W => kwithin_any at_ ((b.length : Int) + 1) (by omega) (by omega) W)
  dsimp only
  go_wp2_with fail
  refine hfl.out.mono ?_
  rintro e w5 ⟨b2, hb2l, v8, rfl, o8, hb5⟩
  obtain ⟨A8, c8, rfl, -, -⟩ := o8.sees.mk_
  have s8 := o8.sees
  replace x9 := x9.below hb5
  replace sl := Lib.hid (seesB_of sl.out (Nat.le_refl _) hb5)
  replace sp := Lib.hid (seesB_of sp.out (Nat.le_refl _) hb5)
  replace ss := Lib.hid (seesB_of ss.out (Nat.le_refl _) hb5)
  replace s5 := seesB_of s5 (Nat.le_refl _) hb5
  replace hbw := Lib.hid (bgo hbw.out hb5)
  obtain ⟨i, hi, hi2⟩ := kmod_nat at_ ((b.length : Int) + 1) (by omega)
  rw [hi] at hwi
  have hrc := run_cut_to (P := Tryz.prog) 23 Tryz.underlying23 1 byte_size A5 b.length c5 .i64 (i : Int) (by omega) (by omega)
  rw [Int.toNat_natCast, Nat.sub_zero, Nat.sub_zero] at hrc
  have s9 := SeesB.cut (a := 0) (b := i) s5 (by omega) (by omega)
  rw [List.drop_zero, Nat.sub_zero, Nat.sub_zero] at s9
  generalize hA9 : cutA A5 c5 0 1 = A9 at *
  have hl9 : (b.take i).length = i := by rw [List.length_take]; omega
  have hL := seesL_lit w5 23 (vs := [.slice Al l.length cl, .slice A8 b2.length c8, .slice A9 i c5]) (ls := [l, b2, b.take i]) ⟨sl.out, s8, s9, trivial⟩ (by simp [maxLen])
  have hys : ∀ k, k < 3 → ([l, b2, b.take i].getD k []).length ≤ 2048 := fun k hk => by
    match k, hk with
    | 0, _ => have := h1.out; show l.length ≤ 2048; omega
    | 1, _ => show b2.length ≤ 2048; omega
    | 2, _ => show (b.take i).length ≤ 2048; omega
  have hyl : ([l, b2, b.take i] : List Bs).length = 3 := rfl
  generalize [l, b2, b.take i] = ys at *
  have hal5 := balloc w5 (.cells #[.slice Al l.length cl, .slice A8 b2.length c8, .slice A9 i c5] 23)
  replace x9 := x9.below hal5
  replace sp := Lib.hid (seesB_of sp.out (Nat.le_refl _) hal5)
  replace ss := Lib.hid (seesB_of ss.out (Nat.le_refl _) hal5)
  replace hbw := Lib.hid (bgo hbw.out hal5)
  replace hyl := Lib.hid hyl
  replace hys := Lib.hid hys
  replace hl9 := Lib.hid hl9
  replace hA9 := Lib.hid hA9
  replace hi := Lib.hid hi
  replace hb2l := Lib.hid hb2l
  have hi3 : (i : Int) ≤ (c5 : Int) := by omega
  have hi4 : (0 : Int) ≤ (i : Int) := by omega
  clear s8 s9 s5 o8 hb5 hi2
  change SeesL (w5.alloc (.cells #[.slice Al l.length cl, .slice A8 b2.length c8, .slice A9 i c5] 23)) _ _ _ at hL
  dsimp only
  go_wp2_with fail
  (with_reducible refine (hwi.out _).mono ?_)
  replace hbl := Lib.hid hbl
  rintro e w6 ⟨rfl, hw6⟩
  obtain rfl := hw6.symm
  dsimp only
  go_wp2_with fail
  clear hrc hal5 hwi hfl hi3 hi4
  generalize w5.alloc (.cells #[.slice Al l.length cl, .slice A8 b2.length c8, .slice A9 i c5] 23) = W7 at *
  generalize w5.heap.size = g82 at *
  have hx9 := Lib.hid x9
  replace hL := Lib.hid hL
  clear x9
  go_loopw [84] (fun t wr => ∃ k : Nat, k ≤ 3 ∧ t = .int .i64 k ∧ Hid (Below W7.heap.size W7 wr)) (fun t _ => 3 - (intOf t).toNat)
  case atStart => exact ⟨0, by omega, rfl, Below.refl _ _⟩
  case round =>
    obtain ⟨k, hk, rfl, hb⟩ := hrel
    by_cases hlt : k < 3
    · obtain ⟨b6, o6, e6, hb6, hcell⟩ := (hL.out.below hb.out).at_ (by rw [hyl.out]; omega)
      obtain ⟨A', c', y1, -, -, sy⟩ := hcell k (by rw [hyl.out]; exact hlt)
      injection e6 with e6
      injection e6 with e61 e62
      subst e61
      subst e62
      rw [Nat.zero_add] at y1
      have hy := hys.out k hlt
      generalize ys.getD k [] = y at *
      have i0 : (k : Int) < 3 := by omega
      have hd := hdd.out wr _ y (sy.more hb.out.size) (by omega)
      have hr := fun W u (h : SeesB W W.heap.size u y) => hrd.out W u y h (by omega)
      unfold DDecP at hd hr
      generalize delP y = P at *
      generalize delS y = Q at *
      generalize delLo y = lo at *
      generalize delHi y = hi9 at *
      generalize delC y = C at *
      have sy1 := Lib.hid (sy.more hb.out.size)
      replace hy := Lib.hid hy
      replace hd := Lib.hid hd
      replace hr := Lib.hid hr
      clear hcell sy
      go_wp2_with fail
      refine hd.out.mono ?_
      rintro e w8 ⟨q1, q2, rfl, t1, t2, hb8⟩
      obtain ⟨B1, d1, rfl, -, -⟩ := t1.mk_
      obtain ⟨B2', d2, rfl, -, -⟩ := t2.mk_
      have hal8 := balloc w8 (.cells #[.slice B1 P.length d1, .int .i64 lo, .int .i64 hi9, .slice B2' Q.length d2] 37)
      have x19 := Box.new w8 37 [.slice B1 P.length d1, .int .i64 lo, .int .i64 hi9, .slice B2' Q.length d2]
      change Box (w8.alloc (.cells #[.slice B1 P.length d1, .int .i64 lo, .int .i64 hi9, .slice B2' Q.length d2] 37)) _ _ _ at x19
      have hb9 := bgo hb8 hal8
      have sy2 := Lib.hid (seesB_of sy1.out (Nat.le_refl _) hb9)
      have p1 := seesB_of t1 (Nat.le_refl _) hal8
      have p2 := seesB_of t2 (Nat.le_refl _) hal8
      have hbk := Lib.hid (bgo hb.out hb9)
      clear t1 t2 hal8 hb8 hb9 sy1 hd
      dsimp only
      go_upto_region 12 with (fail)
      generalize w8.alloc (.cells #[.slice B1 P.length d1, .int .i64 lo, .int .i64 hi9, .slice B2' Q.length d2] 37) = W8 at *
      generalize w8.heap.size = g19 at *
      go_wp2_with fail
      refine (hr.out W8 _ sy2.out).mono ?_
      rintro e w9 ⟨q1, q2, rfl, t1, t2, hb8⟩
      obtain ⟨B3, d3, rfl, -, -⟩ := t1.mk_
      obtain ⟨B4, d4, rfl, -, -⟩ := t2.mk_
      have hal8 := balloc w9 (.cells #[.slice B3 P.length d3, .int .i64 lo, .int .i64 hi9, .slice B4 Q.length d4] 37)
      have x21 := Box.new w9 37 [.slice B3 P.length d3, .int .i64 lo, .int .i64 hi9, .slice B4 Q.length d4]
      change Box (w9.alloc (.cells #[.slice B3 P.length d3, .int .i64 lo, .int .i64 hi9, .slice B4 Q.length d4] 37)) _ _ _ at x21
      have hb9 := bgo hb8 hal8
      have p3 := seesB_of t1 (Nat.le_refl _) hal8
      have p4 := seesB_of t2 (Nat.le_refl _) hal8
      replace p1 := seesB_of p1 (Nat.le_refl _) hb9
      replace p2 := seesB_of p2 (Nat.le_refl _) hb9
      replace x19 := x19.below hb9
      replace hbk := Lib.hid (bgo hbk.out hb9)
      clear t1 t2 hal8 hb8 hb9 sy2 hr
      dsimp only
      go_upto_region 13 with (fail)
      generalize w9.alloc (.cells #[.slice B3 P.length d3, .int .i64 lo, .int .i64 hi9, .slice B4 Q.length d4] 37) = W9 at *
      generalize w9.heap.size = g21 at *
      obtain ⟨z0, z1, z2, z3, -, -, -, -⟩ := box4_cells x19
      obtain ⟨q0, q1, q2, q3, -, -, -, -⟩ := box4_cells x21
      have hs2 := Lib.hid (hsm.out _ _ _ _ P Q lo hi9 W9 p1 p2 p3 p4)
      clear p1 p2 p3 p4
      go_wp2_with fail
      refine hs2.out.mono ?_
      rintro e w10 ⟨rfl, hb10⟩
      replace hbk := Lib.hid (bgo hbk.out hb10)
      clear z0 z1 z2 z3 q0 q1 q2 q3 x19 x21 hs2 hb10
      dsimp only
      go_wp2_with fail
      go_roundw
      case rel => exact ⟨k + 1, by omega, by go_num, hbk⟩
      case measure => simp [intOf]; omega
    · obtain rfl : k = 3 := by omega
      have x9 := hx9.out.below hb.out
      have sp9 := seesB_of sp.out (Nat.le_refl _) hb.out
      have ss9 := seesB_of ss.out (Nat.le_refl _) hb.out
      replace hbw := Lib.hid (bgo hbw.out hb.out)
      clear hL hys hx9 hdd hrd hb
      have he := hde.out wr _ _ p s f t sp9 ss9 (by have := h2.out; omega) (by have := h3.out; omega)
      unfold DEncP at he
      have hre := Lib.hid (fun W u u2 (a : SeesB W W.heap.size u p) (b : SeesB W W.heap.size u2 s) => rdencode_any W.heap.size u u2 p s f t W a b (Nat.le_refl _) (by have := h2.out; omega) (by have := h3.out; omega))
      unfold DEncP at hre
      generalize dencB p f t s = D at *
      generalize dencC p f t s = C at *
      replace he := Lib.hid he
      obtain ⟨y0, y1, y2, y3, -, -, -, -⟩ := box4_cells x9
      go_wp2_with fail
      refine he.out.mono ?_
      rintro e w8 ⟨q1, rfl, o1, hb8⟩
      obtain ⟨B1, d1, rfl, -, -⟩ := o1.sees.mk_
      replace x9 := x9.below hb8
      replace hbw := Lib.hid (bgo hbw.out hb8)
      have p1 := o1.sees
      replace sp9 := seesB_of sp9 (Nat.le_refl _) hb8
      replace ss9 := seesB_of ss9 (Nat.le_refl _) hb8
      clear y0 y1 y2 y3 he o1 hb8
      obtain ⟨y0, y1, y2, y3, -, -, -, -⟩ := box4_cells x9
      dsimp only
      go_wp2_with fail
      refine (hre.out w8 _ _ sp9 ss9).mono ?_
      rintro e w9 ⟨q2, rfl, o2, hb9⟩
      obtain ⟨B2', d2, rfl, -, -⟩ := o2.sees.mk_
      replace hbw := Lib.hid (bgo hbw.out hb9)
      replace p1 := seesB_of p1 (Nat.le_refl _) hb9
      have p2 := o2.sees
      clear y0 y1 y2 y3 hre o2 hb9 sp9 ss9 x9
      dsimp only
      go_wp2_with fail
      refine (hkn.out _).mono ?_
      rintro e w10 ⟨rfl, hb10⟩
      replace hbw := Lib.hid (bgo hbw.out hb10)
      have hsb := Lib.hid (rsame_eq _ _ _ _ D w10 (seesB_of p1 (Nat.le_refl _) hb10) (seesB_of p2 (Nat.le_refl _) hb10))
      clear p1 p2 hb10
      dsimp only
      go_wp2_with fail
      refine hsb.out.mono ?_
      rintro e w11 ⟨rfl, hw11⟩
      obtain rfl := hw11.symm
      dsimp only
      go_wp2_with fail
      go_ret
      exact ⟨rfl, hbw.out⟩
end Go.Proofs.YtkefbjpdpcmpnaaGreat

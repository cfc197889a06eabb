/- The walk of the statement DelegateVerifies: true. No conditions. -/
import Derived.Test.YtkefbjpdpcmpnaaGreatC28
import Derived.Test.YtkefbjpdpcmpnaaGreatC29
import Derived.Test.YtkefbjpdpcmpnaaGreatC23
import Derived.Test.YtkefbjpdpcmpnaaGreatC24
import Derived.Deep.CutBlock
import Derived.Outline
import Derived.BigQuiet
namespace Go.Proofs.YtkefbjpdpcmpnaaGreat
open Go Go.RowKit
set_option linter.unusedVariables false
set_option linter.unusedSimpArgs false
attribute [local go_sem ↓] Go.wp_at_zero Go.wp_at_succ
/-- The key, the nonce and the answer that Verify is asked about. -/
def SwD (w : World) (v12 v13 v17 : Value) (W : World) : Prop :=
  ∃ p n b, SeesB W W.heap.size v12 p ∧ SeesB W W.heap.size v13 n ∧ SeesB W W.heap.size v17 b ∧ b.length ≤ 2048 ∧ Below w.heap.size w W
set_option maxRecDepth 100000 in
set_option maxHeartbeats 8000000 in
theorem dverifies_law (v : Int) (wf0 : (Lit.int .i64 v).wf = true) (at_ : Int) (wf1 : (Lit.int .i64 at_).wf = true) (by_ : Int) (wf2 : (Lit.int .i64 by_).wf = true) (how : Int) (wf3 : (Lit.int .i64 how).wf = true) (B : Nat) (u : Value) (raw : Bs) (w : World) (hu : SeesB w B u raw) (hB : B ≤ w.heap.size) :
    Calls Tryz.prog 6 #[.int .i64 v, .int .i64 at_, .int .i64 by_, .int .i64 how, u] w fun e w' => e = .returned (.bool true) ∧ Below w.heap.size w w' := by
  obtain ⟨Ar, cr, rfl, -, -⟩ := hu.mk_
  clear wf0 wf1 wf2 wf3
  have hkn := Lib.hid (fun W => dknown_any W)
  by_cases hr : raw.length ≤ 300
  rotate_left
  · have i1 : (300 : Int) < (raw.length : Int) := by omega
    clear hu
    go_enter Tryz.func6, Tryz.ntmps6
    go_wp2_with fail
    refine (hkn.out _).mono ?_
    rintro e w1 ⟨rfl, hb1⟩
    dsimp only
    go_wp2_with fail
    go_ret
    exact ⟨rfl, hb1⟩
  have i1 : ¬ (300 : Int) < (raw.length : Int) := by omega
  have hgr := Lib.hid (fun W => kgranted_any v 0 0 99 W (by decide))
  have hwi := Lib.hid (fun (v m : Int) (h1 : 1 ≤ m) (h2 : m ≤ 4294967296) W => kwithin_any v m h1 h2 W)
  have hfl := Lib.hid (fun u (l : Bs) W (hu : SeesB W W.heap.size u l) (hl : l.length ≤ 1048576) => kflip_any u l at_ by_ W hu hl)
  have hkr := Lib.hid (fun x W => (show Calls Tryz.prog 18 #[.int .i64 x, .int .i64 32] W (Shows (randK x 32) W) from krandom_any x 32 (by omega) W))
  obtain ⟨q, hq, hq2⟩ := kmod_nat how 6 (by omega)
  have hw6 := fun W => hwi.out how 6 (by omega) (by omega) W
  rw [hq] at hw6
  replace hw6 := Lib.hid hw6
  replace hq := Lib.hid hq
  replace hq2 := Lib.hid hq2
  have su := Lib.hid (hu.more hB)
  replace hr := Lib.hid hr
  clear hu hB
  go_enter Tryz.func6, Tryz.ntmps6
  go_upto_region 3 with (fail)
  clear i1
  go_wp2_with fail
  refine (hgr.out w).mono ?_
  rintro e w1 ⟨v1, v2, v3, v4, sd, P, sd1, pk1, rfl, r1, hsd, -, hPl, r2, r3, -, -, hpk, r4, hb1⟩
  rw [show (0 : Int) % 2 = 0 from rfl]
  generalize hS : sigG sd1 0 0 (tGrant ++ P ++ spanB 0 99) = S at *
  have hfS : fitsG S = true := by rw [← hS]; exact head_sig _ _ _ _ (by omega)
  have hlS := head_le S hfS
  obtain ⟨A1, c1, rfl, -, -⟩ := r1.mk_
  obtain ⟨A2, c2, rfl, -, -⟩ := r2.mk_
  obtain ⟨A3, c3, rfl, -, -⟩ := r3.mk_
  obtain ⟨A4, c4, rfl, -, -⟩ := r4.mk_
  have hal1 := balloc w1 (.cells #[.slice A1 sd.length c1, .int .i64 0, .int .i64 0, .slice A2 P.length c2, .int .i64 0, .int .i64 99, .slice A3 S.length c3] 41)
  have x11 := Box.new w1 41 [.slice A1 sd.length c1, .int .i64 0, .int .i64 0, .slice A2 P.length c2, .int .i64 0, .int .i64 99, .slice A3 S.length c3]
  change Box (w1.alloc (.cells #[.slice A1 sd.length c1, .int .i64 0, .int .i64 0, .slice A2 P.length c2, .int .i64 0, .int .i64 99, .slice A3 S.length c3] 41)) _ _ _ at x11
  have hbw := Lib.hid (bgo hb1 hal1)
  replace r1 := seesB_of r1 (Nat.le_refl _) hal1
  replace r2 := seesB_of r2 (Nat.le_refl _) hal1
  replace r3 := seesB_of r3 (Nat.le_refl _) hal1
  replace r4 := seesB_of r4 (Nat.le_refl _) hal1
  replace su := Lib.hid (seesB_of su.out (Nat.le_refl _) hbw.out)
  replace hPl := Lib.hid hPl
  replace hlS := Lib.hid hlS
  replace hfS := Lib.hid hfS
  replace hS := Lib.hid hS
  replace hsd := Lib.hid hsd
  replace hpk := Lib.hid hpk
  clear hal1 hgr hb1
  dsimp only
  go_upto_region 4 with (fail)
  generalize w1.alloc (.cells #[.slice A1 sd.length c1, .int .i64 0, .int .i64 0, .slice A2 P.length c2, .int .i64 0, .int .i64 99, .slice A3 S.length c3] 41) = W1 at *
  generalize w1.heap.size = g11 at *
  go_wp2_with fail
  refine (hkr.out v W1).mono ?_
  rintro e w2 ⟨v5, rfl, r5, hb2, -⟩
  have hnl := randK_len v 32 (by omega)
  generalize randK v 32 = nn at *
  obtain ⟨A5, c5, rfl, -, -⟩ := r5.mk_
  obtain ⟨a0, a1, a2, a3, a4, a5, a6⟩ := box7_cells (x11.below hb2)
  have hal2 := balloc w2 (.cells #[.slice A5 nn.length c5] 23)
  have hb3 := bgo hb2 hal2
  replace x11 := x11.below hb3
  replace r1 := seesB_of r1 (Nat.le_refl _) hb3
  replace r2 := seesB_of r2 (Nat.le_refl _) hb3
  replace r3 := seesB_of r3 (Nat.le_refl _) hb3
  replace r4 := seesB_of r4 (Nat.le_refl _) hb3
  have hbA := Lib.hid hb3
  have sl := seesL_lit w2 23 (vs := [.slice A5 nn.length c5]) (ls := [nn]) ⟨r5, trivial⟩ (by simp [maxLen])
  replace r5 := seesB_of r5 (Nat.le_refl _) hal2
  have hD := rdanswer_any _ _ _ _ _ sd 0 0 P 0 99 S [nn] 7 8 _ r1 r2 r3 sl (Nat.le_refl _) (by have := hPl.out; omega) (by have := hlS.out; omega) (by simp)
  obtain ⟨b, hR, hbl⟩ := dans_one (sd := sd) (P := P) (S := S) (nn := nn) (h := 0) (f := 0) (t := 99) (lo := 7) (hi := 8) hsd.out (by omega) (by omega) hnl (by decide) hPl.out hfS.out (by decide) (by decide)
  rw [hR] at hD
  unfold DAnsFP at hD
  dsimp only at hD
  replace hD := Lib.hid hD
  replace hnl := Lib.hid hnl
  clear hb3 hal2 sl x11 r1 r2 r3
  dsimp only
  go_wp2_with fail
  refine hD.out.mono ?_
  rintro e w4 ⟨v8, v9, v10, v11, rfl, t1, t2, t3, o9, hb4⟩
  obtain ⟨A7, c7, rfl, -, -⟩ := t1.mk_
  obtain ⟨B7, d7, rfl, -, -⟩ := t2.mk_
  obtain ⟨E7, k7, rfl, -, -⟩ := t3.mk_
  obtain ⟨A15, c15, rfl⟩ := o9.own.shape
  obtain ⟨gL, rfl⟩ := o9.own.at_ (by simp)
  obtain ⟨A17, c17, z1, el, -⟩ := o9.elt (k := 0) (by simp)
  rw [List.length_singleton] at o9 ⊢
  rw [show [b].getD 0 [] = b from rfl] at z1 el
  have hgL := (o9.own.lt gL rfl).2
  have hal4 := balloc w4 (.cells #[.slice A7 sd.length c7, .int .i64 0, .int .i64 1, .slice B7 P.length d7, .int .i64 0, .int .i64 99, .slice E7 S.length k7] 41)
  have hb5 := bgo hb4 hal4
  have z2 := (hal4.cell (p := ⟨gL, 0, none⟩) hgL).trans z1
  replace r4 := Lib.hid (seesB_of r4 (Nat.le_refl _) hb5)
  replace r5 := Lib.hid (seesB_of r5 (Nat.le_refl _) hb5)
  replace su := Lib.hid (seesB_of su.out (Nat.le_refl _) (bgo hbA.out hb5))
  replace hbw := Lib.hid (bgo (bgo hbw.out hbA.out) hb5)
  have rb := Lib.hid (seesB_of el.1 (Nat.le_refl _) hal4)
  replace hbl := Lib.hid hbl
  clear a0 a1 a2 a3 a4 a5 a6 hD t1 t2 t3 o9 hb4 hal4 hb5 z1 el hgL hfS hlS hPl hsd hR
  dsimp only
  go_upto_region 6 with (fail)
  generalize w4.alloc (.cells #[.slice A7 sd.length c7, .int .i64 0, .int .i64 1, .slice B7 P.length d7, .int .i64 0, .int .i64 99, .slice E7 S.length k7] 41) = w5 at *
  generalize w4.heap.size = g14 at *
  go_wp2_with fail
  refine (hw6.out _).mono ?_
  rintro e w6 ⟨rfl, hw⟩
  obtain rfl := hw.symm
  clear hw6 z2
  dsimp only
  go_upto_block 0 with (fail)
  go_cut [12, 13, 17] (fun v12 v13 v17 W => SwD w5 v12 v13 v17 W)
  case first =>
    have hdef : Hid (SwD w5 (.slice A4 pk1.length c4) (.slice A5 nn.length c5) (.slice A17 b.length c17) w5) := ⟨pk1, nn, b, r4.out, r5.out, rb.out, hbl.out, Below.refl _ _⟩
    have h7 := hq2.out
    have hf1 := Lib.hid (hfl.out _ b w5 rb.out (by have := hbl.out; omega))
    have hf3 := Lib.hid (hfl.out _ pk1 w5 r4.out (by have := hpk.out; omega))
    obtain rfl | rfl | rfl | rfl | rfl | rfl : q = 0 ∨ q = 1 ∨ q = 2 ∨ q = 3 ∨ q = 4 ∨ q = 5 := by omega
    · go_wp2_with fail
      refine hf1.out.mono ?_
      rintro e w6 ⟨l', hl', v6, rfl, o6, hb6⟩
      obtain ⟨A6, c6, rfl, -, -⟩ := o6.sees.mk_
      have hdone : SwD w5 (.slice A4 pk1.length c4) (.slice A5 nn.length c5) (.slice A6 l'.length c6) w6 := ⟨pk1, nn, l', seesB_of r4.out (Nat.le_refl _) hb6, seesB_of r5.out (Nat.le_refl _) hb6, o6.sees, by have := hbl.out; omega, hb6⟩
      dsimp only
      go_wp2_with fail
      go_meet
      exact hdone
    · go_wp2_with fail
      refine hf1.out.mono ?_
      rintro e w6 ⟨l', hl', v6, rfl, o6, hb6⟩
      obtain ⟨A6, c6, rfl, -, -⟩ := o6.sees.mk_
      have hdone : SwD w5 (.slice A4 pk1.length c4) (.slice A5 nn.length c5) (.slice A6 l'.length c6) w6 := ⟨pk1, nn, l', seesB_of r4.out (Nat.le_refl _) hb6, seesB_of r5.out (Nat.le_refl _) hb6, o6.sees, by have := hbl.out; omega, hb6⟩
      dsimp only
      go_wp2_with fail
      go_meet
      exact hdone
    · obtain ⟨j, hj, hj2⟩ := kmod_nat at_ ((b.length : Int) + 1) (by omega)
      have hwj := hwi.out at_ ((b.length : Int) + 1) (by omega) (by have := hbl.out; omega) w5
      rw [hj] at hwj
      obtain ⟨A17', c17', e4, q1, q2⟩ := rb.out.mk_
      injection e4 with e4a e4b e4c
      subst e4a
      subst e4c
      have hrc := run_cut_to (P := Tryz.prog) 23 Tryz.underlying23 1 byte_size A17 b.length c17 .i64 (j : Int) (by omega) (by omega)
      rw [Int.toNat_natCast, Nat.sub_zero, Nat.sub_zero] at hrc
      have s9 := SeesB.cut (a := 0) (b := j) rb.out (by omega) (by omega)
      rw [List.drop_zero, Nat.sub_zero, Nat.sub_zero] at s9
      have hl9 : (b.take j).length = j := by rw [List.length_take]; omega
      have hdone : Hid (SwD w5 (.slice A4 pk1.length c4) (.slice A5 nn.length c5) (.slice (cutA A17 c17 0 1) j c17) w5) := ⟨pk1, nn, b.take j, r4.out, r5.out, s9, by have := hbl.out; omega, Below.refl _ _⟩
      generalize cutA A17 c17 0 1 = A9 at *
      have i3 : (j : Int) ≤ (c17 : Int) := by omega
      have i4 : (0 : Int) ≤ (j : Int) := by omega
      have i5 : (b.length : Int) ≤ 2048 := by have := hbl.out; omega
      replace hwj := Lib.hid hwj
      replace hl9 := Lib.hid hl9
      replace hj := Lib.hid hj
      clear s9 hj2 q1 q2 e4b
      go_wp2_with fail
      (with_reducible refine hwj.out.mono ?_)
      rintro e w6 ⟨rfl, hw⟩
      obtain rfl := hw.symm
      dsimp only
      go_wp2_with fail
      go_meet
      exact hdone.out
    · go_wp2_with fail
      refine (hkr.out at_ w5).mono ?_
      rintro e w6 ⟨v6, rfl, s6, hb6, -⟩
      obtain ⟨A6, c6, rfl, -, -⟩ := s6.mk_
      have hdone : SwD w5 (.slice A4 pk1.length c4) (.slice A6 (randK at_ 32).length c6) (.slice A17 b.length c17) w6 := ⟨pk1, _, b, seesB_of r4.out (Nat.le_refl _) hb6, s6, seesB_of rb.out (Nat.le_refl _) hb6, hbl.out, hb6⟩
      generalize randK at_ 32 = d at *
      dsimp only
      go_wp2_with fail
      go_meet
      exact hdone
    · go_wp2_with fail
      refine hf3.out.mono ?_
      rintro e w6 ⟨l', hl', v6, rfl, o6, hb6⟩
      obtain ⟨A6, c6, rfl, -, -⟩ := o6.sees.mk_
      have hdone : SwD w5 (.slice A6 l'.length c6) (.slice A5 nn.length c5) (.slice A17 b.length c17) w6 := ⟨l', nn, b, o6.sees, seesB_of r5.out (Nat.le_refl _) hb6, seesB_of rb.out (Nat.le_refl _) hb6, hbl.out, hb6⟩
      dsimp only
      go_wp2_with fail
      go_meet
      exact hdone
    · go_wp2_with fail
      go_meet
      exact hdef.out
  case rest =>
  obtain ⟨p, n2, b2, tp, tn, tb, hb2l, hb3⟩ := hcut
  obtain ⟨w6, rfl⟩ : ∃ w6 : World, w6 = wc := ⟨_, rfl⟩
  obtain ⟨A6, c6, rfl, -, -⟩ := tp.mk_
  obtain ⟨A8, c8, rfl, -, -⟩ := tn.mk_
  obtain ⟨A9, c9, rfl, -, -⟩ := tb.mk_
  replace hbw := Lib.hid (bgo hbw.out hb3)
  have sr := seesB_of su.out (Nat.le_refl _) hb3
  have hv1 := fun W (hW : Below w6.heap.size w6 W) => dverify_any W.heap.size _ _ _ p n2 b2 W (seesB_of tp (Nat.le_refl _) hW) (seesB_of tn (Nat.le_refl _) hW) (seesB_of tb (Nat.le_refl _) hW) (Nat.le_refl _) (by omega)
  have hv2 := fun W (hW : Below w6.heap.size w6 W) => rdverify_any W.heap.size _ _ _ p n2 b2 W (seesB_of tp (Nat.le_refl _) hW) (seesB_of tn (Nat.le_refl _) hW) (seesB_of tb (Nat.le_refl _) hW) (Nat.le_refl _) (by omega)
  have hv3 := fun W (hW : Below w6.heap.size w6 W) => dverify_any W.heap.size _ _ _ p n2 raw W (seesB_of tp (Nat.le_refl _) hW) (seesB_of tn (Nat.le_refl _) hW) (seesB_of sr (Nat.le_refl _) hW) (Nat.le_refl _) (by have := hr.out; omega)
  have hv4 := fun W (hW : Below w6.heap.size w6 W) => rdverify_any W.heap.size _ _ _ p n2 raw W (seesB_of tp (Nat.le_refl _) hW) (seesB_of tn (Nat.le_refl _) hW) (seesB_of sr (Nat.le_refl _) hW) (Nat.le_refl _) (by have := hr.out; omega)
  unfold DVerP at hv1 hv2 hv3 hv4
  generalize dverLo p n2 b2 = lo at *
  generalize dverHi p n2 b2 = hi at *
  generalize dverC p n2 b2 = C at *
  generalize dverLo p n2 raw = lo2 at *
  generalize dverHi p n2 raw = hi2 at *
  generalize dverC p n2 raw = C2 at *
  replace hv1 := Lib.hid hv1
  replace hv2 := Lib.hid hv2
  replace hv3 := Lib.hid hv3
  replace hv4 := Lib.hid hv4
  clear r4 r5 rb su hfl hwi hkr hb3 tp tn tb sr hb2l
  have hk : Below w6.heap.size w6 w6 := Below.refl _ _
  go_wp2_with fail
  refine (hv1.out _ hk).mono ?_
  rintro e v1 ⟨rfl, hbv⟩
  have hal := balloc v1 (.cells #[.int .i64 lo, .int .i64 hi] 27)
  have y1 := Box.new v1 27 [.int .i64 lo, .int .i64 hi]
  change Box (v1.alloc (.cells #[.int .i64 lo, .int .i64 hi] 27)) _ _ _ at y1
  have hbx := bgo hbv hal
  replace hk := bgo hk hbx
  clear hbv hal hbx
  dsimp only
  go_upto_region 18 with (fail)
  generalize v1.alloc (.cells #[.int .i64 lo, .int .i64 hi] 27) = V1 at *
  generalize v1.heap.size = g1 at *
  go_wp2_with fail
  refine (hv2.out _ hk).mono ?_
  rintro e v2 ⟨rfl, hbv⟩
  have hal := balloc v2 (.cells #[.int .i64 lo, .int .i64 hi] 27)
  have y2 := Box.new v2 27 [.int .i64 lo, .int .i64 hi]
  change Box (v2.alloc (.cells #[.int .i64 lo, .int .i64 hi] 27)) _ _ _ at y2
  have hbx := bgo hbv hal
  replace y1 := y1.below hbx
  replace hk := bgo hk hbx
  clear hbv hal hbx
  dsimp only
  go_upto_region 19 with (fail)
  generalize v2.alloc (.cells #[.int .i64 lo, .int .i64 hi] 27) = V2 at *
  generalize v2.heap.size = g2 at *
  go_wp2_with fail
  refine (hv3.out _ hk).mono ?_
  rintro e v3 ⟨rfl, hbv⟩
  have hal := balloc v3 (.cells #[.int .i64 lo2, .int .i64 hi2] 27)
  have y3 := Box.new v3 27 [.int .i64 lo2, .int .i64 hi2]
  change Box (v3.alloc (.cells #[.int .i64 lo2, .int .i64 hi2] 27)) _ _ _ at y3
  have hbx := bgo hbv hal
  replace y1 := y1.below hbx
  replace y2 := y2.below hbx
  replace hk := bgo hk hbx
  clear hbv hal hbx
  dsimp only
  go_upto_region 20 with (fail)
  generalize v3.alloc (.cells #[.int .i64 lo2, .int .i64 hi2] 27) = V3 at *
  generalize v3.heap.size = g3 at *
  go_wp2_with fail
  refine (hv4.out _ hk).mono ?_
  rintro e v4 ⟨rfl, hbv⟩
  have hal := balloc v4 (.cells #[.int .i64 lo2, .int .i64 hi2] 27)
  have y4 := Box.new v4 27 [.int .i64 lo2, .int .i64 hi2]
  change Box (v4.alloc (.cells #[.int .i64 lo2, .int .i64 hi2] 27)) _ _ _ at y4
  have hbx := bgo hbv hal
  replace y1 := y1.below hbx
  replace y2 := y2.below hbx
  replace y3 := y3.below hbx
  replace hk := bgo hk hbx
  clear hbv hal hbx
  dsimp only
  go_upto_region 21 with (fail)
  generalize v4.alloc (.cells #[.int .i64 lo2, .int .i64 hi2] 27) = V4 at *
  generalize v4.heap.size = g4 at *
  go_wp2_with fail
  refine (hkn.out _).mono ?_
  rintro e w9 ⟨rfl, hb9⟩
  replace hbw := Lib.hid (bgo hbw.out (bgo hk hb9))
  replace y1 := y1.below hb9
  replace y2 := y2.below hb9
  replace y3 := y3.below hb9
  replace y4 := y4.below hb9
  obtain ⟨m1, n1⟩ := boxT2 y1
  obtain ⟨m2, n2'⟩ := boxT2 y2
  obtain ⟨m3, n3⟩ := boxT2 y3
  obtain ⟨m4, n4⟩ := boxT2 y4
  clear y1 y2 y3 y4 hk hb9
  dsimp only
  go_wp2_with fail
  go_ret
  exact ⟨rfl, hbw.out⟩
end Go.Proofs.YtkefbjpdpcmpnaaGreat

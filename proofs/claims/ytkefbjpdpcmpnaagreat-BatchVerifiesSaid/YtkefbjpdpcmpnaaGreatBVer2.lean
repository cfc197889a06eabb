/- The walk of the statement BatchVerifies: true. No conditions. -/
import Derived.Test.YtkefbjpdpcmpnaaGreatC27
import Derived.Test.YtkefbjpdpcmpnaaGreatC18
import Derived.Deep.CutBlock
import Derived.Outline
import Derived.BigQuiet
namespace Go.Proofs.YtkefbjpdpcmpnaaGreat
open Go Go.RowKit
set_option linter.unusedVariables false
set_option linter.unusedSimpArgs false
attribute [local go_sem ↓] Go.wp_at_zero Go.wp_at_succ
/-- The key, the answer and the nonce that Verify is asked about. -/
def SwV (w : World) (v15 v17 v18 : Value) (W : World) : Prop :=
  ∃ p n b, SeesB W W.heap.size v15 p ∧ SeesB W W.heap.size v17 b ∧ SeesB W W.heap.size v18 n ∧ b.length ≤ 2048 ∧ Below w.heap.size w W
def TwoV (w1 : World) (a b v17 v18 : Value) (W : World) : Prop := v17 = a ∧ v18 = b ∧ Below w1.heap.size w1 W
set_option maxRecDepth 100000 in
set_option maxHeartbeats 8000000 in
theorem bverifies_law (v : Int) (wf0 : (Lit.int .i64 v).wf = true) (n : Int) (wf1 : (Lit.int .i64 n).wf = true) (wh : Int) (wf2 : (Lit.int .i64 wh).wf = true) (at_ : Int) (wf3 : (Lit.int .i64 at_).wf = true) (by_ : Int) (wf4 : (Lit.int .i64 by_).wf = true) (how : Int) (wf5 : (Lit.int .i64 how).wf = true) (w : World) :
    Calls Tryz.prog 3 #[.int .i64 v, .int .i64 n, .int .i64 wh, .int .i64 at_, .int .i64 by_, .int .i64 how] w fun e w' => e = .returned (.bool true) ∧ Below w.heap.size w w' := by
  clear wf0 wf1 wf2 wf3 wf4 wf5
  have hmd := Lib.hid (fun W => made_any v n how 5 9 W (by decide))
  have hwi := Lib.hid (fun (v m : Int) (h1 : 1 ≤ m) (h2 : m ≤ 4294967296) W => kwithin_any v m h1 h2 W)
  have hkn := Lib.hid (fun W => known_any W)
  have hfl := Lib.hid (fun u (l : Bs) W (hu : SeesB W W.heap.size u l) (hl : l.length ≤ 1048576) => kflip_any u l at_ by_ W hu hl)
  obtain ⟨q, hq, hq2⟩ := kmod_nat how 7 (by omega)
  have hw7 := fun W => hwi.out how 7 (by omega) (by omega) W
  rw [hq] at hw7
  replace hw7 := Lib.hid hw7
  obtain ⟨z, hz, hz2⟩ := kmod_nat by_ 2 (by omega)
  have hw2 := fun W => hwi.out by_ 2 (by omega) (by omega) W
  rw [hz] at hw2
  replace hw2 := Lib.hid hw2
  have hkr := Lib.hid (fun W => krandom_any at_ (31 + z) (by omega) W)
  replace hq := Lib.hid hq
  replace hz := Lib.hid hz
  replace hq2 := Lib.hid hq2
  replace hz2 := Lib.hid hz2
  go_enter Tryz.func3, Tryz.ntmps3
  go_wp2_with fail
  refine (hmd.out w).mono ?_
  rintro e w1 ⟨va, vn, vp, ys, ns, pk, rfl, sa, sn, sp, hlen, hn1, hn5, hyl, h32, hpl, hb1⟩
  obtain ⟨A1, c1, rfl, -, -⟩ := sa.mk_
  obtain ⟨A2, c2, rfl, -, -⟩ := sn.mk_
  obtain ⟨A3, c3, rfl, -, -⟩ := sp.mk_
  rw [hlen] at sa ⊢
  obtain ⟨i, hi, hi2⟩ := kmod_nat wh (ns.length : Int) (by omega)
  have hwl := hwi.out wh (ns.length : Int) (by omega) (by omega) w1
  rw [hi] at hwl
  obtain ⟨ba, oa, rfl, hba, hca⟩ := sa.at_ (by omega)
  obtain ⟨bn, on_, rfl, hbn, hcn⟩ := sn.at_ (by omega)
  obtain ⟨A4, c4, y1, -, -, s1⟩ := hca i (by omega)
  obtain ⟨A5, c5, y2, -, -, s2⟩ := hcn i (by omega)
  have hy2 : (ys.getD i []).length ≤ 2048 := by
    have h9 : i < ys.length := by omega
    have : ys.getD i [] = ys[i] := by rw [List.getD_eq_getElem?_getD, List.getElem?_eq_getElem h9]; rfl
    rw [this]
    exact hyl _ (List.getElem_mem h9)
  generalize ys.getD i [] = a at *
  generalize hnn : ns.getD i [] = nn at *
  have i0 : (i : Int) < (ns.length : Int) := by omega
  have i1 : (0 : Int) ≤ (i : Int) := by omega
  have K : Hid (∀ W, Below w1.heap.size w1 W → W.cell? ⟨ba, oa + i, none⟩ = some (.slice A4 a.length c4) ∧ W.cell? ⟨bn, on_ + i, none⟩ = some (.slice A5 nn.length c5)) := fun W hW => ⟨(hW.cell (p := ⟨ba, oa + i, none⟩) hba).trans y1, (hW.cell (p := ⟨bn, on_ + i, none⟩) hbn).trans y2⟩
  replace hwl := Lib.hid hwl
  replace hi := Lib.hid hi
  replace hyl := Lib.hid hyl
  replace h32 := Lib.hid h32
  replace hpl := Lib.hid hpl
  replace hy2 := Lib.hid hy2
  replace hlen := Lib.hid hlen
  replace hnn := Lib.hid hnn
  replace s1 := Lib.hid s1
  replace s2 := Lib.hid s2
  replace sn := Lib.hid sn
  replace sp := Lib.hid sp
  replace hb1 := Lib.hid hb1
  clear hmd sa hca hcn hi2
  dsimp only
  go_wp2_with fail
  refine hwl.out.mono ?_
  rintro e w2 ⟨rfl, hw⟩
  obtain rfl := hw.symm
  clear hwl
  dsimp only
  go_upto_region 3 with (fail)
  go_cut [17, 18] (fun v17 v18 W => TwoV w1 (.slice A4 a.length c4) (.slice A5 nn.length c5) v17 v18 W)
  case first =>
    go_region_held3 (fun W' : World => W'.cell? ⟨ba, oa + i, none⟩ = some (.slice A4 a.length c4) ∧ W'.cell? ⟨bn, on_ + i, none⟩ = some (.slice A5 nn.length c5))
      (first | exact K.out _ (by (repeat (first | exact Below.refl _ _ | (refine bgo ?_ (balloc _ _)) | (refine bgo ?_ (bdrew _)) | (refine bgo ?_ (by assumption))))) | (go_keep; done))
      (fail)
    all_goals
      go_wp2_with fail
      go_meet
      first
        | exact ⟨rfl, rfl, Below.refl _ _⟩
        | exact ⟨rfl, rfl, bdrew _⟩
  case rest =>
  obtain ⟨rfl, rfl, hb2⟩ := hcut
  obtain ⟨w2, rfl⟩ : ∃ w2 : World, w2 = wc := ⟨_, rfl⟩
  replace s1 := Lib.hid (seesB_of s1.out (Nat.le_refl _) hb2)
  replace s2 := Lib.hid (seesB_of s2.out (Nat.le_refl _) hb2)
  replace sn := Lib.hid (seesL_of sn.out (Nat.le_refl _) hb2)
  replace sp := Lib.hid (seesB_of sp.out (Nat.le_refl _) hb2)
  have hbw := Lib.hid (bgo hb1.out hb2)
  clear y1 y2 K hb1 hb2 i0 i1 hba hbn
  go_wp2_with fail
  refine (hw7.out _).mono ?_
  rintro e w3 ⟨rfl, hw⟩
  obtain rfl := hw.symm
  clear hw7
  dsimp only
  go_upto_block 0 with (fail)
  go_cut [15, 17, 18] (fun v15 v17 v18 W => SwV w2 v15 v17 v18 W)
  case first =>
    have hdef : Hid (SwV w2 (.slice A3 pk.length c3) (.slice A4 a.length c4) (.slice A5 nn.length c5) w2) := ⟨pk, nn, a, sp.out, s1.out, s2.out, hy2.out, Below.refl _ _⟩
    have h7 := hq2.out
    have hf1 := Lib.hid (hfl.out _ a w2 s1.out (by have := hy2.out; omega))
    have hf3 := Lib.hid (hfl.out _ pk w2 sp.out (by have := hpl.out; omega))
    obtain rfl | rfl | rfl | rfl | rfl | rfl | rfl : q = 0 ∨ q = 1 ∨ q = 2 ∨ q = 3 ∨ q = 4 ∨ q = 5 ∨ q = 6 := by omega
    · go_wp2_with fail
      refine hf1.out.mono ?_
      rintro e w4 ⟨l', hl', v6, rfl, o6, hb6⟩
      obtain ⟨A6, c6, rfl, -, -⟩ := o6.sees.mk_
      have hdone : SwV w2 (.slice A3 pk.length c3) (.slice A6 l'.length c6) (.slice A5 nn.length c5) w4 := ⟨pk, nn, l', seesB_of sp.out (Nat.le_refl _) hb6, o6.sees, seesB_of s2.out (Nat.le_refl _) hb6, by have := hy2.out; omega, hb6⟩
      dsimp only
      go_wp2_with fail
      go_meet
      exact hdone
    · go_wp2_with fail
      refine hf1.out.mono ?_
      rintro e w4 ⟨l', hl', v6, rfl, o6, hb6⟩
      obtain ⟨A6, c6, rfl, -, -⟩ := o6.sees.mk_
      have hdone : SwV w2 (.slice A3 pk.length c3) (.slice A6 l'.length c6) (.slice A5 nn.length c5) w4 := ⟨pk, nn, l', seesB_of sp.out (Nat.le_refl _) hb6, o6.sees, seesB_of s2.out (Nat.le_refl _) hb6, by have := hy2.out; omega, hb6⟩
      dsimp only
      go_wp2_with fail
      go_meet
      exact hdone
    · obtain ⟨j, hj, hj2⟩ := kmod_nat at_ ((a.length : Int) + 1) (by omega)
      have hwj := hwi.out at_ ((a.length : Int) + 1) (by omega) (by have := hy2.out; omega) w2
      rw [hj] at hwj
      obtain ⟨A4', c4', e4, q1, q2⟩ := s1.out.mk_
      injection e4 with e4a e4b e4c
      subst e4a
      subst e4c
      have hrc := run_cut_to (P := Tryz.prog) 23 Tryz.underlying23 1 byte_size A4 a.length c4 .i64 (j : Int) (by omega) (by omega)
      rw [Int.toNat_natCast, Nat.sub_zero, Nat.sub_zero] at hrc
      have s9 := SeesB.cut (a := 0) (b := j) s1.out (by omega) (by omega)
      rw [List.drop_zero, Nat.sub_zero, Nat.sub_zero] at s9
      have hl9 : (a.take j).length = j := by rw [List.length_take]; omega
      have hdone : Hid (SwV w2 (.slice A3 pk.length c3) (.slice (cutA A4 c4 0 1) j c4) (.slice A5 nn.length c5) w2) := ⟨pk, nn, a.take j, sp.out, s9, s2.out, by have := hy2.out; omega, Below.refl _ _⟩
      generalize cutA A4 c4 0 1 = A9 at *
      have i3 : (j : Int) ≤ (c4 : Int) := by omega
      have i4 : (0 : Int) ≤ (j : Int) := by omega
      have i5 : (a.length : Int) ≤ 2048 := by have := hy2.out; omega
      replace hwj := Lib.hid hwj
      replace hl9 := Lib.hid hl9
      replace hj := Lib.hid hj
      clear s9 hj2 q1 q2 e4b
      go_wp2_with fail
      (with_reducible refine hwj.out.mono ?_)
      rintro e w4 ⟨rfl, hw⟩
      obtain rfl := hw.symm
      dsimp only
      go_wp2_with fail
      go_meet
      exact hdone.out
    · obtain ⟨j, hj, hj2⟩ := kmod_nat at_ (ns.length : Int) (by omega)
      have hwj := hwi.out at_ (ns.length : Int) (by omega) (by omega) w2
      rw [hj] at hwj
      obtain ⟨bn', on', e9, hbn, hcn⟩ := sn.out.at_ (by omega)
      injection e9 with e9
      injection e9 with e91 e92
      subst e91
      subst e92
      obtain ⟨A9, c9, y1, -, -, s9⟩ := hcn j (by omega)
      have hdone : Hid (SwV w2 (.slice A3 pk.length c3) (.slice A4 a.length c4) (.slice A9 (ns.getD j []).length c9) w2) := ⟨pk, ns.getD j [], a, sp.out, s1.out, s9.more (Nat.le_refl _), hy2.out, Below.refl _ _⟩
      generalize ns.getD j [] = d at *
      have i3 : (j : Int) < (ns.length : Int) := by omega
      have i4 : (0 : Int) ≤ (j : Int) := by omega
      replace hwj := Lib.hid hwj
      replace hj := Lib.hid hj
      clear s9 hcn hj2
      go_wp2_with fail
      refine hwj.out.mono ?_
      rintro e w4 ⟨rfl, hw⟩
      obtain rfl := hw.symm
      dsimp only
      go_wp2_with fail
      go_meet
      exact hdone.out
    · have hk9 : Hid (∀ W, Calls Tryz.prog 18 #[.int .i64 at_, .int .i64 (31 + (z : Int))] W (Shows (randK at_ (31 + z)) W)) := fun W => by
        have := hkr.out W
        rw [show ((31 + z : Nat) : Int) = 31 + (z : Int) by omega] at this
        exact this
      have i3 : (z : Int) < 2 := by have := hz2.out; omega
      have i4 : (0 : Int) ≤ (z : Int) := by omega
      go_wp2_with fail
      refine (hw2.out w2).mono ?_
      rintro e w4 ⟨rfl, hw⟩
      obtain rfl := hw.symm
      dsimp only
      go_wp2_with fail
      refine (hk9.out w2).mono ?_
      rintro e w4 ⟨v6, rfl, s6, hb6, -⟩
      obtain ⟨A6, c6, rfl, -, -⟩ := s6.mk_
      have hdone : SwV w2 (.slice A3 pk.length c3) (.slice A4 a.length c4) (.slice A6 (randK at_ (31 + z)).length c6) w4 := ⟨pk, _, a, seesB_of sp.out (Nat.le_refl _) hb6, seesB_of s1.out (Nat.le_refl _) hb6, s6, hy2.out, hb6⟩
      generalize randK at_ (31 + z) = d at *
      dsimp only
      go_wp2_with fail
      go_meet
      exact hdone
    · go_wp2_with fail
      refine hf3.out.mono ?_
      rintro e w4 ⟨l', hl', v6, rfl, o6, hb6⟩
      obtain ⟨A6, c6, rfl, -, -⟩ := o6.sees.mk_
      have hdone : SwV w2 (.slice A6 l'.length c6) (.slice A4 a.length c4) (.slice A5 nn.length c5) w4 := ⟨l', nn, a, o6.sees, seesB_of s1.out (Nat.le_refl _) hb6, seesB_of s2.out (Nat.le_refl _) hb6, hy2.out, hb6⟩
      dsimp only
      go_wp2_with fail
      go_meet
      exact hdone
    · go_wp2_with fail
      go_meet
      exact hdef.out
  case rest =>
    obtain ⟨p, n2, b, tp, tb, tn, hbl, hb3⟩ := hcut
    obtain ⟨w3, rfl⟩ : ∃ w3 : World, w3 = wc := ⟨_, rfl⟩
    obtain ⟨A6, c6, rfl, -, -⟩ := tp.mk_
    obtain ⟨A7, c7, rfl, -, -⟩ := tb.mk_
    obtain ⟨A8, c8, rfl, -, -⟩ := tn.mk_
    replace hbw := Lib.hid (bgo hbw.out hb3)
    have hv1 := bverify_any w3.heap.size _ _ _ p n2 b w3 tp tn tb (Nat.le_refl _) (by omega)
    have hv2 := fun W (hW : Below w3.heap.size w3 W) => rbverify_any W.heap.size _ _ _ p n2 b W (seesB_of tp (Nat.le_refl _) hW) (seesB_of tn (Nat.le_refl _) hW) (seesB_of tb (Nat.le_refl _) hW) (Nat.le_refl _) (by omega)
    unfold BVerP at hv1 hv2
    generalize bverLo p n2 b = lo at *
    generalize bverHi p n2 b = hi9 at *
    generalize bverC p n2 b = C at *
    replace hv1 := Lib.hid hv1
    replace hv2 := Lib.hid hv2
    clear s1 s2 sn sp hb3 tp tb tn hfl hwi hw2 hkr
    go_wp2_with fail
    refine hv1.out.mono ?_
    rintro e w4 ⟨rfl, hb4⟩
    have hal4 := balloc w4 (.cells #[.int .i64 lo, .int .i64 hi9] 27)
    have x19 := Box.new w4 27 [.int .i64 lo, .int .i64 hi9]
    change Box (w4.alloc (.cells #[.int .i64 lo, .int .i64 hi9] 27)) _ _ _ at x19
    have hb34 := bgo hb4 hal4
    replace hbw := Lib.hid (bgo hbw.out hb34)
    have hv3 := Lib.hid (hv2.out _ hb34)
    clear hv1 hv2 hb4 hal4 hb34
    dsimp only
    go_upto_region 17 with (fail)
    generalize w4.alloc (.cells #[.int .i64 lo, .int .i64 hi9] 27) = W4 at *
    generalize w4.heap.size = g19 at *
    go_wp2_with fail
    refine hv3.out.mono ?_
    rintro e w5 ⟨rfl, hb5⟩
    have hal5 := balloc w5 (.cells #[.int .i64 lo, .int .i64 hi9] 27)
    have x21 := Box.new w5 27 [.int .i64 lo, .int .i64 hi9]
    change Box (w5.alloc (.cells #[.int .i64 lo, .int .i64 hi9] 27)) _ _ _ at x21
    have hb45 := bgo hb5 hal5
    replace x19 := x19.below hb45
    replace hbw := Lib.hid (bgo hbw.out hb45)
    clear hv3 hb5 hal5 hb45
    dsimp only
    go_upto_region 18 with (fail)
    generalize w5.alloc (.cells #[.int .i64 lo, .int .i64 hi9] 27) = W5 at *
    generalize w5.heap.size = g21 at *
    go_wp2_with fail
    refine (hkn.out _).mono ?_
    rintro e w6 ⟨rfl, hb6⟩
    replace x19 := x19.below hb6
    replace x21 := x21.below hb6
    replace hbw := Lib.hid (bgo hbw.out hb6)
    clear hb6
    have d0 : w6.cell? ⟨g19, 0, none⟩ = some (.int .i64 lo) := x19.cell 0
    have d1 : w6.cell? ⟨g19, 1, none⟩ = some (.int .i64 hi9) := x19.cell 1
    have d2 : w6.cell? ⟨g21, 0, none⟩ = some (.int .i64 lo) := x21.cell 0
    have d3 : w6.cell? ⟨g21, 1, none⟩ = some (.int .i64 hi9) := x21.cell 1
    dsimp only
    go_wp2_with fail
    go_ret
    exact ⟨rfl, hbw.out⟩
end Go.Proofs.YtkefbjpdpcmpnaaGreat

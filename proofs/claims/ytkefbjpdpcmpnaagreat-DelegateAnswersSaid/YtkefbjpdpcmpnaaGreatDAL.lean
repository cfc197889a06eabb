/- The walk of the statement DelegateAnswers: true. No conditions. -/
import Derived.Test.YtkefbjpdpcmpnaaGreatC27
import Derived.Test.YtkefbjpdpcmpnaaGreatA4
import Derived.Test.YtkefbjpdpcmpnaaGreatC29
import Derived.Test.YtkefbjpdpcmpnaaGreatC28
import Derived.BigQuiet
namespace Go.Proofs.YtkefbjpdpcmpnaaGreat
open Go Go.RowKit
set_option linter.unusedVariables false
set_option linter.unusedSimpArgs false
attribute [local go_sem ↓] Go.wp_at_zero Go.wp_at_succ
theorem answer_len9 {sd : Bs} {h n : Int} {ns : List Bs} {lo hi : Int} : (answerR sd h n ns lo hi).2.1.length ≤ ns.length := by
  unfold answerR
  split
  · split
    · simp [ansL_len]
    · simp
  · simp
theorem dans_len {sd : Bs} {h n : Int} {P : Bs} {f t : Int} {S : Bs} {ns : List Bs} {lo hi : Int} : (dansR sd h n P f t S ns lo hi).2.1.length ≤ ns.length := by
  have h1 := answer_len9 (sd := sd) (h := h) (n := n) (ns := ns) (lo := lo) (hi := hi)
  unfold dansR
  split
  · split
    · split
      · split
        · simpa using h1
        · simp
      · simp
    · simp
  · simp
/-- The grant while its signature may be struck. -/
def DaR (w5 : World) (g11 : Nat) (A1 : Option Addr) (c1 : Nat) (sd : Bs) (H N : Int) (A2 : Option Addr) (c2 : Nat) (P : Bs) (A4 : Option Addr) (m4 c4 : Nat) (v12 : Value) (W : World) : Prop :=
  ∃ A3 c3 S, v12 = .slice A4 m4 c4 ∧ Box W g11 41 [.slice A1 sd.length c1, .int .i64 H, .int .i64 N, .slice A2 P.length c2, .int .i64 100, .int .i64 900, .slice A3 S.length c3] ∧ SeesB W W.heap.size (.slice A1 sd.length c1) sd ∧ SeesB W W.heap.size (.slice A2 P.length c2) P ∧ SeesB W W.heap.size (.slice A3 S.length c3) S ∧ S.length ≤ 757 ∧ Below w5.heap.size w5 W
theorem noG7 {a b c : Option Addr} {n1 k1 n2 k2 n3 k3 : Nat} {x y z u : Int} : NoByte [Value.slice a n1 k1, .int .i64 x, .int .i64 y, .slice b n2 k2, .int .i64 z, .int .i64 u, .slice c n3 k3] := by
  intro q hq n e
  simp only [List.mem_cons, List.not_mem_nil, or_false] at hq
  rcases hq with rfl | rfl | rfl | rfl | rfl | rfl | rfl <;> cases e
theorem sees_oneC {W : World} {g j : Nat} {T : TypeId} {v u : Value} {l : Bs} {xs : List Value} (x : Box W g T xs) (hn : NoByte xs) (hs : SeesB W W.heap.size u l) : SeesB (W.setCell ⟨g, j, none⟩ v) (W.setCell ⟨g, j, none⟩ v).heap.size u l := (hs.poke x hn).more (by simp [World.setCell])
set_option maxRecDepth 100000 in
set_option maxHeartbeats 8000000 in
theorem danswers_law (v : Int) (wf0 : (Lit.int .i64 v).wf = true) (n : Int) (wf1 : (Lit.int .i64 n).wf = true) (lo : Int) (wf2 : (Lit.int .i64 lo).wf = true) (hi : Int) (wf3 : (Lit.int .i64 hi).wf = true) (how : Int) (wf4 : (Lit.int .i64 how).wf = true) (w : World) :
    Calls Tryz.prog 12 #[.int .i64 v, .int .i64 n, .int .i64 lo, .int .i64 hi, .int .i64 how] w fun e w' => e = .returned (.bool true) ∧ Below w.heap.size w w' := by
  clear wf0 wf1 wf2 wf3 wf4
  have hgr := Lib.hid (fun W => kgranted_any v how 100 900 W (by decide))
  have hwi := Lib.hid (fun (v m : Int) (h1 : 1 ≤ m) (h2 : m ≤ 4294967296) W => kwithin_any v m h1 h2 W)
  have hkn := Lib.hid (fun W => dknown_any W)
  obtain ⟨q, hq, hq2⟩ := kmod_nat n 4 (by omega)
  have hrn := Lib.hid (fun x W => krandoms_any x 32 q W (by omega) (by omega))
  have hwq := fun W => hwi.out n 4 (by omega) (by omega) W
  rw [hq] at hwq
  obtain ⟨p, hp, hp2⟩ := kmod_nat how 7 (by omega)
  have hwp := fun W => hwi.out how 7 (by omega) (by omega) W
  rw [hp] at hwp
  obtain ⟨l, hl, hl2⟩ := kmod_nat lo 1000 (by omega)
  have hwl := fun W => hwi.out lo 1000 (by omega) (by omega) W
  rw [hl] at hwl
  obtain ⟨h, hh, hh2⟩ := kmod_nat hi 500 (by omega)
  have hwh := fun W => hwi.out hi 500 (by omega) (by omega) W
  rw [hh] at hwh
  replace hwq := Lib.hid hwq
  replace hwp := Lib.hid hwp
  replace hwl := Lib.hid hwl
  replace hwh := Lib.hid hwh
  clear hq hp hl hh
  have q2 := Lib.hid hq2
  have p2 := Lib.hid hp2
  have l2 := Lib.hid hl2
  have e2 := Lib.hid hh2
  clear hq2 hp2 hl2 hh2
  go_enter Tryz.func12, Tryz.ntmps12
  go_wp2_with fail
  refine (hgr.out w).mono ?_
  rintro e w1 ⟨v1, v2, v3, v4, sd, P, sd1, pk1, rfl, r1, -, -, hPl, r2, r3, -, -, -, r4, hb1⟩
  generalize hS : sigG sd1 0 0 (tGrant ++ P ++ spanB 100 900) = S at *
  have hlS : S.length ≤ 757 := head_le S (by rw [← hS]; exact head_sig _ _ _ _ (by omega))
  obtain ⟨A1, c1, rfl, -, -⟩ := r1.mk_
  obtain ⟨A2, c2, rfl, -, -⟩ := r2.mk_
  obtain ⟨A3, c3, rfl, -, -⟩ := r3.mk_
  obtain ⟨A4, c4, rfl, -, -⟩ := r4.mk_
  generalize how % 2 = H at *
  have hal1 := balloc w1 (.cells #[.slice A1 sd.length c1, .int .i64 H, .int .i64 0, .slice A2 P.length c2, .int .i64 100, .int .i64 900, .slice A3 S.length c3] 41)
  have x11 := Box.new w1 41 [.slice A1 sd.length c1, .int .i64 H, .int .i64 0, .slice A2 P.length c2, .int .i64 100, .int .i64 900, .slice A3 S.length c3]
  change Box (w1.alloc (.cells #[.slice A1 sd.length c1, .int .i64 H, .int .i64 0, .slice A2 P.length c2, .int .i64 100, .int .i64 900, .slice A3 S.length c3] 41)) _ _ _ at x11
  have hg11 : Hid (w.heap.size ≤ w1.heap.size) := hb1.size
  have hbw := Lib.hid (bgo hb1 hal1)
  replace r1 := seesB_of r1 (Nat.le_refl _) hal1
  replace r2 := seesB_of r2 (Nat.le_refl _) hal1
  replace r3 := seesB_of r3 (Nat.le_refl _) hal1
  replace hPl := Lib.hid hPl
  replace hlS := Lib.hid hlS
  replace hS := Lib.hid hS
  clear hal1 hgr hb1 r4
  dsimp only
  go_upto_region 2 with (fail)
  generalize w1.alloc (.cells #[.slice A1 sd.length c1, .int .i64 H, .int .i64 0, .slice A2 P.length c2, .int .i64 100, .int .i64 900, .slice A3 S.length c3] 41) = W1 at *
  generalize w1.heap.size = g11 at *
  have c2' : W1.cell? ⟨g11, 2, none⟩ = some (.int .i64 0) := x11.cell 2
  have f2 := x11.frozen 2
  go_wp2_with fail
  refine (hwi.out how 3 (by omega) (by omega) W1).mono ?_
  rintro e w2 ⟨rfl, hw2⟩
  obtain rfl := hw2.symm
  generalize how % 3 = N at *
  dsimp only
  go_upto_region 3 with (fail)
  have y11 := x11.set 2 (.int .i64 N)
  simp only [List.set_cons_zero, List.set_cons_succ] at y11
  have s1 := sees_oneC (j := 2) (v := .int .i64 N) x11 noG7 r1
  have s2 := sees_oneC (j := 2) (v := .int .i64 N) x11 noG7 r2
  have s3 := sees_oneC (j := 2) (v := .int .i64 N) x11 noG7 r3
  have hby := hbw.out.setCell (p := ⟨g11, 2, none⟩) hg11.out (.int .i64 N)
  clear c2' f2 x11 r1 r2 r3 hbw
  generalize W1.setCell ⟨g11, 2, none⟩ (.int .i64 N) = W2 at *
  have hbw := Lib.hid hby
  replace y11 := Lib.hid y11
  replace s1 := Lib.hid s1
  replace s2 := Lib.hid s2
  replace s3 := Lib.hid s3
  clear hby
  go_wp2_with fail
  refine (hwp.out W2).mono ?_
  rintro e w3 ⟨rfl, hw3⟩
  obtain rfl := hw3.symm
  dsimp only
  go_upto_if 33 with (fail)
  go_cut [12] (fun v12 W => DaR w g11 A1 c1 sd H N A2 c2 P A4 pk1.length c4 v12 W)
  case first =>
    by_cases hp6 : p = 6
    · subst hp6
      have c6 : W2.cell? ⟨g11, 6, none⟩ = some (.slice A3 S.length c3) := y11.out.cell 6
      have f6 := y11.out.frozen 6
      go_wp2_with fail
      go_meet
      have z11 := y11.out.set 6 (.slice none 0 0)
      simp only [List.set_cons_zero, List.set_cons_succ] at z11
      exact ⟨none, 0, [], rfl, z11, sees_oneC y11.out noG7 s1.out, sees_oneC y11.out noG7 s2.out, SeesB.nil _ _, by simp, hbw.out.setCell (p := ⟨g11, 6, none⟩) hg11.out _⟩
    · have i1 : ¬ (p : Int) = 6 := by omega
      go_wp2_with fail
      go_meet
      exact ⟨A3, c3, S, rfl, y11.out, s1.out, s2.out, s3.out, hlS.out, hbw.out⟩
  case rest =>
  clear y11 s1 s2 s3 hbw hlS hS
  obtain ⟨A3, c3, S, rfl, x11, s1, s2, s3, hlS, hbw⟩ := hcut
  obtain ⟨w5, rfl⟩ : ∃ w5 : World, w5 = wc := ⟨_, rfl⟩
  replace hbw := Lib.hid hbw
  replace hlS := Lib.hid hlS
  go_wp2_with fail
  refine (hwi.out v 100 (by omega) (by omega) w5).mono ?_
  rintro e w6 ⟨rfl, hw6⟩
  obtain rfl := hw6.symm
  dsimp only
  go_wp2_with fail
  refine (hwq.out w5).mono ?_
  rintro e w6 ⟨rfl, hw6⟩
  obtain rfl := hw6.symm
  clear hwi hwq
  dsimp only
  go_wp2_with fail
  refine (hrn.out _ _).mono ?_
  rintro e w6 ⟨v6, rfl, o6, hb6⟩
  have hnl := randsK_len (v % 100) 32 q
  generalize randsK (v % 100) 32 q = ns at *
  obtain ⟨A6, c6, rfl⟩ := o6.shape
  replace x11 := x11.below hb6
  replace s1 := seesB_of s1 (Nat.le_refl _) hb6
  replace s2 := seesB_of s2 (Nat.le_refl _) hb6
  replace s3 := seesB_of s3 (Nat.le_refl _) hb6
  have sn := o6.sees
  replace hbw := Lib.hid (bgo hbw.out hb6)
  replace hnl := Lib.hid hnl
  clear hrn o6 hb6
  dsimp only
  go_wp2_with fail
  refine (hwl.out w6).mono ?_
  rintro e w7 ⟨rfl, hw7⟩
  obtain rfl := hw7.symm
  clear hwl
  dsimp only
  go_upto_region 7 with (fail)
  have hal6 := balloc w6 (.cells #[.int .i64 (l : Int), .int .i64 0] 27)
  have x14 := Box.new w6 27 [.int .i64 (l : Int), .int .i64 0]
  change Box (w6.alloc (.cells #[.int .i64 (l : Int), .int .i64 0] 27)) _ _ _ at x14
  have hb67 := Lib.hid hal6
  generalize w6.alloc (.cells #[.int .i64 (l : Int), .int .i64 0] 27) = W7 at *
  generalize hg14 : w6.heap.size = g14 at x14 ⊢
  replace hg14 := Lib.hid hg14
  have m1 : IntKind.i64.wrap ((l : Int) + (h : Int)) = (l : Int) + (h : Int) := by have := l2.out; have := e2.out; rw [IntKind.wrap_i64]; omega
  have m2 : IntKind.i64.wrap ((l : Int) + (h : Int) - 3) = (l : Int) + (h : Int) - 3 := by have := l2.out; have := e2.out; rw [IntKind.wrap_i64]; omega
  have c0 : W7.cell? ⟨g14, 0, none⟩ = some (.int .i64 (l : Int)) := x14.cell 0
  have c1' : W7.cell? ⟨g14, 1, none⟩ = some (.int .i64 0) := x14.cell 1
  have f1 := x14.frozen 1
  clear hal6
  replace x14 := Lib.hid x14
  replace x11 := Lib.hid x11
  replace s1 := Lib.hid s1
  replace s2 := Lib.hid s2
  replace s3 := Lib.hid s3
  replace sn := Lib.hid sn
  go_cut [12] (fun v12 W => v12 = .slice A4 pk1.length c4 ∧ Box W g14 27 [.int .i64 (l : Int), .int .i64 ((l : Int) + (h : Int) - 3)] ∧ Below w6.heap.size w6 W)
  case first =>
    go_region_with
      (go_at_call 16; (with_reducible refine (hwh.out _).mono ?_); rintro e w9 ⟨rfl, hw9⟩; subst hw9)
    all_goals
      go_wp2_with fail
      go_meet
      have z := x14.out.set 1 (.int .i64 ((l : Int) + (h : Int) - 3))
      simp only [List.set_cons_zero, List.set_cons_succ] at z
      have hz := hb67.out.setCell (p := ⟨g14, 1, none⟩) (Nat.le_of_eq hg14.out) (.int .i64 ((l : Int) + (h : Int) - 3))
      first
        | exact ⟨rfl, z, hz⟩
        | exact ⟨rfl, z, hz.drew⟩
  case rest =>
  obtain ⟨rfl, x14, hb7⟩ := hcut
  obtain ⟨w7, rfl⟩ : ∃ w7 : World, w7 = wc := ⟨_, rfl⟩
  replace x11 := x11.out.below hb7
  replace s1 := seesB_of s1.out (Nat.le_refl _) hb7
  replace s2 := seesB_of s2.out (Nat.le_refl _) hb7
  replace s3 := seesB_of s3.out (Nat.le_refl _) hb7
  replace sn := seesL_of sn.out (Nat.le_refl _) hb7
  replace hbw := Lib.hid (bgo hbw.out hb7)
  clear c0 c1' f1 m1 m2 hb67 hwh hb7
  generalize (l : Int) + (h : Int) - 3 = u at *
  have hA := danswer_any w7.heap.size _ _ _ _ sd H N P 100 900 S ns (l : Int) u w7 s1 s2 s3 sn (Nat.le_refl _) (by have := hPl.out; omega) (by have := hlS.out; omega) (by have := hnl.out; have := q2.out; omega)
  have hB := fun W (hW : Below w7.heap.size w7 W) => rdanswer_any W.heap.size _ _ _ _ sd H N P 100 900 S ns (l : Int) u W (seesB_of s1 (Nat.le_refl _) hW) (seesB_of s2 (Nat.le_refl _) hW) (seesB_of s3 (Nat.le_refl _) hW) (seesL_of sn (Nat.le_refl _) hW) (Nat.le_refl _) (by have := hPl.out; omega) (by have := hlS.out; omega) (by have := hnl.out; have := q2.out; omega)
  have hyl := dans_len (sd := sd) (h := H) (n := N) (P := P) (f := 100) (t := 900) (S := S) (ns := ns) (lo := (l : Int)) (hi := u)
  unfold DAnsP at hA
  unfold DAnsFP at hB
  generalize dansR sd H N P 100 900 S ns (l : Int) u = R at *
  obtain ⟨⟨⟨rs, rh, rn⟩, ⟨P2, f2, t2, S2⟩⟩, ys, rc⟩ := R
  dsimp only at hA hB hyl
  replace hA := Lib.hid hA
  replace hB := Lib.hid hB
  replace hyl := Lib.hid (show ys.length ≤ 1048576 by have := hnl.out; have := q2.out; omega)
  obtain ⟨a0, a1, a2, a3, a4, a5, a6⟩ := box7_cells x11
  obtain ⟨b0, b1⟩ := boxT2 x14
  go_wp2_with fail
  refine hA.out.mono ?_
  rintro e w8 ⟨v8, v9, v10, v11, rfl, t81, t82, t83, t84, hb8⟩
  obtain ⟨A7, c7, rfl, -, -⟩ := t81.mk_
  obtain ⟨B7, d7, rfl, -, -⟩ := t82.mk_
  obtain ⟨E7, k7, rfl, -, -⟩ := t83.mk_
  obtain ⟨A8, c8, rfl, -, -⟩ := t84.mk_
  have hal8 := balloc w8 (.cells #[.slice A7 rs.length c7, .int .i64 rh, .int .i64 rn, .slice B7 P2.length d7, .int .i64 f2, .int .i64 t2, .slice E7 S2.length k7] 41)
  have x15 := Box.new w8 41 [.slice A7 rs.length c7, .int .i64 rh, .int .i64 rn, .slice B7 P2.length d7, .int .i64 f2, .int .i64 t2, .slice E7 S2.length k7]
  change Box (w8.alloc (.cells #[.slice A7 rs.length c7, .int .i64 rh, .int .i64 rn, .slice B7 P2.length d7, .int .i64 f2, .int .i64 t2, .slice E7 S2.length k7] 41)) _ _ _ at x15
  have hb78 := bgo hb8 hal8
  replace x11 := x11.below hb78
  replace x14 := x14.below hb78
  replace t81 := Lib.hid (seesB_of t81 (Nat.le_refl _) hal8)
  replace t82 := Lib.hid (seesB_of t82 (Nat.le_refl _) hal8)
  replace t83 := Lib.hid (seesB_of t83 (Nat.le_refl _) hal8)
  replace t84 := Lib.hid (seesL_of t84 (Nat.le_refl _) hal8)
  replace hbw := Lib.hid (bgo hbw.out hb78)
  have hB8 := Lib.hid (hB.out _ hb78)
  clear a0 a1 a2 a3 a4 a5 a6 b0 b1 hA hB hb8 hal8 hb78 s1 s2 s3 sn
  dsimp only
  go_upto_region 9 with (fail)
  generalize w8.alloc (.cells #[.slice A7 rs.length c7, .int .i64 rh, .int .i64 rn, .slice B7 P2.length d7, .int .i64 f2, .int .i64 t2, .slice E7 S2.length k7] 41) = W8 at *
  generalize w8.heap.size = g15 at *
  obtain ⟨a0, a1, a2, a3, a4, a5, a6⟩ := box7_cells x11
  obtain ⟨b0, b1⟩ := boxT2 x14
  go_wp2_with fail
  refine hB8.out.mono ?_
  rintro e w9 ⟨v8, v9, v10, v11, rfl, t91, t92, t93, o9, hb9⟩
  have t94 := o9.own.sees
  obtain ⟨A9, c9, rfl, -, -⟩ := t91.mk_
  obtain ⟨B9, d9, rfl, -, -⟩ := t92.mk_
  obtain ⟨E9, k9, rfl, -, -⟩ := t93.mk_
  obtain ⟨A10, c10, rfl, -, -⟩ := t94.mk_
  have hal9 := balloc w9 (.cells #[.slice A9 rs.length c9, .int .i64 rh, .int .i64 rn, .slice B9 P2.length d9, .int .i64 f2, .int .i64 t2, .slice E9 S2.length k9] 41)
  have x18 := Box.new w9 41 [.slice A9 rs.length c9, .int .i64 rh, .int .i64 rn, .slice B9 P2.length d9, .int .i64 f2, .int .i64 t2, .slice E9 S2.length k9]
  change Box (w9.alloc (.cells #[.slice A9 rs.length c9, .int .i64 rh, .int .i64 rn, .slice B9 P2.length d9, .int .i64 f2, .int .i64 t2, .slice E9 S2.length k9] 41)) _ _ _ at x18
  have hb89 := bgo hb9 hal9
  replace x15 := x15.below hb89
  replace t91 := seesB_of t91 (Nat.le_refl _) hal9
  replace t92 := seesB_of t92 (Nat.le_refl _) hal9
  replace t93 := seesB_of t93 (Nat.le_refl _) hal9
  replace t94 := seesL_of t94 (Nat.le_refl _) hal9
  replace t81 := seesB_of t81.out (Nat.le_refl _) hb89
  replace t82 := seesB_of t82.out (Nat.le_refl _) hb89
  replace t83 := seesB_of t83.out (Nat.le_refl _) hb89
  replace t84 := seesL_of t84.out (Nat.le_refl _) hb89
  replace hbw := Lib.hid (bgo hbw.out hb89)
  clear a0 a1 a2 a3 a4 a5 a6 b0 b1 hB8 hb9 hal9 hb89 o9 x11 x14
  dsimp only
  go_upto_region 10 with (fail)
  generalize w9.alloc (.cells #[.slice A9 rs.length c9, .int .i64 rh, .int .i64 rn, .slice B9 P2.length d9, .int .i64 f2, .int .i64 t2, .slice E9 S2.length k9] 41) = W9 at *
  generalize w9.heap.size = g18 at *
  have hsg := Lib.hid (fun W (hW : Below W9.heap.size W9 W) => rsamegrant_eq _ _ _ _ _ _ rs P2 S2 rh rn f2 t2 W (seesB_of t81 (Nat.le_refl _) hW) (seesB_of t82 (Nat.le_refl _) hW) (seesB_of t83 (Nat.le_refl _) hW) (seesB_of t91 (Nat.le_refl _) hW) (seesB_of t92 (Nat.le_refl _) hW) (seesB_of t93 (Nat.le_refl _) hW))
  have hsl := Lib.hid (fun W (hW : Below W9.heap.size W9 W) => rsamel_eq _ _ ys W (seesL_of t84 (Nat.le_refl _) hW) (seesL_of t94 (Nat.le_refl _) hW) hyl.out)
  clear t81 t82 t83 t84 t91 t92 t93 t94
  go_wp2_with fail
  refine (hkn.out _).mono ?_
  rintro e w10 ⟨rfl, hb10⟩
  replace x15 := x15.below hb10
  replace x18 := x18.below hb10
  obtain ⟨a0, a1, a2, a3, a4, a5, a6⟩ := box7_cells x15
  obtain ⟨b0, b1, b2, b3, b4, b5, b6⟩ := box7_cells x18
  dsimp only
  go_wp2_with fail
  refine (hsg.out _ hb10).mono ?_
  rintro e w11 ⟨rfl, hb11⟩
  clear a0 a1 a2 a3 a4 a5 a6 b0 b1 b2 b3 b4 b5 b6 x15 x18
  dsimp only
  go_wp2_with fail
  refine (hsl.out _ (bgo hb10 hb11)).mono ?_
  rintro e w12 ⟨rfl, hb12⟩
  replace hbw := Lib.hid (bgo hbw.out (bgo (bgo hb10 hb11) hb12))
  clear hb10 hb11 hb12
  dsimp only
  go_wp2_with fail
  go_ret
  exact ⟨rfl, hbw.out⟩
end Go.Proofs.YtkefbjpdpcmpnaaGreat

/- A piece of my texts, cut out by slice.py: what a claim leans on. -/
import Derived.Test.YtamdgjgommejjaaGreatDBe
namespace Go.Proofs.YtamdgjgommejjaaGreat
section
open Go Go.RowKit
set_option linter.unusedVariables false
set_option linter.unusedSimpArgs false
attribute [local go_sem ↓] Go.wp_at_zero Go.wp_at_succ
theorem dnames_eq (w : World) : Calls Tryz.prog 20 #[] w fun e w' => e = .returned (.tuple #[.slice (some ⟨w.heap.size, 0, none⟩) 3 3, .slice (some ⟨w.heap.size + 1, 0, none⟩) 2 2]) ∧ w' = (w.alloc (.cells #[.string ⟨#[75, 69, 89, 83]⟩, .string ⟨#[83, 73, 71, 78]⟩, .string ⟨#[83, 80, 65, 78]⟩] 9)).alloc (.cells #[.string ⟨#[65, 78, 83, 87]⟩, .string ⟨#[67, 69, 82, 84]⟩] 9) := by
  go_enter Tryz.func20, Tryz.ntmps20
  go_wp2_with fail
  go_returns
  exact ⟨rfl, rfl⟩
theorem namesA_box {W : World} {g : Nat} (x : Box W g 9 [.string ⟨#[65, 78, 83, 87]⟩, .string ⟨#[67, 69, 82, 84]⟩]) : SeesR W W.heap.size (.slice (some ⟨g, 0, none⟩) 2 2) 1 namesA.length (nameS namesA) := by
  refine ⟨rfl, [.string ⟨#[65, 78, 83, 87]⟩, .string ⟨#[67, 69, 82, 84]⟩], ⟨rfl, _, _, rfl, Nat.le_refl 2, by simp [maxLen], fun _ => ⟨g, 0, rfl, x.lt, fun j u hu => ?_⟩⟩, fun k s hk => ?_⟩
  · rw [Nat.zero_add, x.cell]
    exact hu
  · have e1 : nameS namesA = [Spec.val (.string (strB nANSW)), Spec.val (.string (strB nCERT))] := rfl
    rw [e1] at hk
    match k, hk with
    | 0, hk => cases hk; exact ⟨_, rfl, rfl, rfl⟩
    | 1, hk => cases hk; exact ⟨_, rfl, rfl, rfl⟩
    | k + 2, hk => simp at hk
theorem SeesL.set7 {W : World} {g B : Nat} {T : TypeId} {a0 a1 a2 a3 a4 a5 a6 u : Value} {ls : List Bs} (h : Box W g T [a0, a1, a2, a3, a4, a5, a6]) (n : NoByte [a0, a1, a2, a3, a4, a5, a6]) (hB : B ≤ W.heap.size) (hu : ∀ k, u.ownBlock = some k → k ≠ g) (x0 x1 x2 x3 x4 x5 x6 : Value) (hs : SeesL W B u ls) : SeesL (((((((W.setCell ⟨g, 0, none⟩ x0).setCell ⟨g, 1, none⟩ x1).setCell ⟨g, 2, none⟩ x2).setCell ⟨g, 3, none⟩ x3).setCell ⟨g, 4, none⟩ x4).setCell ⟨g, 5, none⟩ x5).setCell ⟨g, 6, none⟩ x6) B u ls :=
  hs.over hB hu h n (ggo (ggo (ggo (ggo (ggo (ggo (setCell_grown W g 0 x0) (setCell_grown _ g 1 x1)) (setCell_grown _ g 2 x2)) (setCell_grown _ g 3 x3)) (setCell_grown _ g 4 x4)) (setCell_grown _ g 5 x5)) (setCell_grown _ g 6 x6))
theorem below_boxB {W W' : World} {B g : Nat} {T : TypeId} {xs : List Value} (hb : Below B W W') (x : Box W g T xs) (hg : g < B) : Box W' g T xs := (hb.block g hg).trans x
set_option maxRecDepth 100000 in
set_option maxHeartbeats 8000000 in
theorem danswer_any (B : Nat) (u u2 u3 u4 : Value) (sd : Bs) (h n : Int) (P : Bs) (f t : Int) (S : Bs) (ns : List Bs) (lo hi : Int) (w : World) (hu : SeesB w B u sd) (hu2 : SeesB w B u2 P) (hu3 : SeesB w B u3 S) (hu4 : SeesL w B u4 ns) (hB : B ≤ w.heap.size) (hP : P.length ≤ 1048576) (hS : S.length ≤ 1048576) (hn : ns.length ≤ 1048576) :
    Calls Tryz.prog 8 #[.agg #[u, .int .i64 h, .int .i64 n, u2, .int .i64 f, .int .i64 t, u3], u4, .agg #[.int .i64 lo, .int .i64 hi]] w (DAnsP (dansR sd h n P f t S ns lo hi) w) := by
  obtain ⟨A, c, rfl, -, -⟩ := hu.mk_
  obtain ⟨A2, c2, rfl, -, -⟩ := hu2.mk_
  obtain ⟨A3, c3, rfl, -, -⟩ := hu3.mk_
  obtain ⟨A4, c4, rfl, -, -⟩ := hu4.mk_
  have b3 := bgo (bgo (balloc w (.cells #[.slice A sd.length c, .int .i64 h, .int .i64 n, .slice A2 P.length c2, .int .i64 f, .int .i64 t, .slice A3 S.length c3] 29)) (balloc _ (.cells #[.int .i64 lo, .int .i64 hi] 40))) (balloc _ (.cells #[.slice none 0 0, .int .i64 0, .int .i64 0, .slice none 0 0, .int .i64 0, .int .i64 0, .slice none 0 0] 29))
  have x3 := ((Box.new w 29 [.slice A sd.length c, .int .i64 h, .int .i64 n, .slice A2 P.length c2, .int .i64 f, .int .i64 t, .slice A3 S.length c3]).below (balloc _ (.cells #[.int .i64 lo, .int .i64 hi] 40))).below (balloc _ (.cells #[.slice none 0 0, .int .i64 0, .int .i64 0, .slice none 0 0, .int .i64 0, .int .i64 0, .slice none 0 0] 29))
  have x5 := (Box.new (w.alloc (.cells #[.slice A sd.length c, .int .i64 h, .int .i64 n, .slice A2 P.length c2, .int .i64 f, .int .i64 t, .slice A3 S.length c3] 29)) 40 [.int .i64 lo, .int .i64 hi]).below (balloc _ (.cells #[.slice none 0 0, .int .i64 0, .int .i64 0, .slice none 0 0, .int .i64 0, .int .i64 0, .slice none 0 0] 29))
  have x6 := Box.new ((w.alloc (.cells #[.slice A sd.length c, .int .i64 h, .int .i64 n, .slice A2 P.length c2, .int .i64 f, .int .i64 t, .slice A3 S.length c3] 29)).alloc (.cells #[.int .i64 lo, .int .i64 hi] 40)) 29 [.slice none 0 0, .int .i64 0, .int .i64 0, .slice none 0 0, .int .i64 0, .int .i64 0, .slice none 0 0]
  rw [World.size_alloc] at x5
  rw [World.size_alloc, World.size_alloc] at x6
  have su := Lib.hid (seesB_of hu hB b3)
  have sP := Lib.hid (seesB_of hu2 hB b3)
  have sS := Lib.hid (seesB_of hu3 hB b3)
  have sn := Lib.hid (seesL_of hu4 hB b3)
  have hg6 : w.heap.size ≤ w.heap.size + 1 + 1 := by omega
  replace hg6 := Lib.hid hg6
  have hn9 := Lib.hid hn
  have hP9 := Lib.hid hP
  have hS9 := Lib.hid hS
  have hbw := Lib.hid b3
  have hD : Hid (dansR sd h n P f t S ns lo hi = if dencC P f t S = 0 then
    (if (answerR sd h n ns lo hi).2.2 = 0 then
      (if inS lo hi f t = true then
        (if wrapOk (dencB P f t S) (answerR sd h n ns lo hi).2.1 = true then (((answerR sd h n ns lo hi).1, (P, f, t, S)), (answerR sd h n ns lo hi).2.1.map (wrapB (dencB P f t S)), 0)
        else (noGrant, [], 2))
      else (noGrant, [], 25))
    else (noGrant, [], (answerR sd h n ns lo hi).2.2))
  else (noGrant, [], dencC P f t S)) := rfl
  clear hu hu2 hu3 hu4 b3 hn hP hS
  change Box (((w.alloc (.cells #[.slice A sd.length c, .int .i64 h, .int .i64 n, .slice A2 P.length c2, .int .i64 f, .int .i64 t, .slice A3 S.length c3] 29)).alloc (.cells #[.int .i64 lo, .int .i64 hi] 40)).alloc (.cells #[.slice none 0 0, .int .i64 0, .int .i64 0, .slice none 0 0, .int .i64 0, .int .i64 0, .slice none 0 0] 29)) _ _ _ at x3 x5 x6
  have hen := dencode_any _ _ _ P S f t (((w.alloc (.cells #[.slice A sd.length c, .int .i64 h, .int .i64 n, .slice A2 P.length c2, .int .i64 f, .int .i64 t, .slice A3 S.length c3] 29)).alloc (.cells #[.int .i64 lo, .int .i64 hi] 40)).alloc (.cells #[.slice none 0 0, .int .i64 0, .int .i64 0, .slice none 0 0, .int .i64 0, .int .i64 0, .slice none 0 0] 29)) sP.out sS.out (Nat.le_refl _) hP9.out hS9.out
  unfold DEncP at hen
  replace hen := Lib.hid hen
  go_enter Tryz.func8, Tryz.ntmps8
  go_upto_region 1 with (fail)
  generalize ((w.alloc (.cells #[.slice A sd.length c, .int .i64 h, .int .i64 n, .slice A2 P.length c2, .int .i64 f, .int .i64 t, .slice A3 S.length c3] 29)).alloc (.cells #[.int .i64 lo, .int .i64 hi] 40)).alloc (.cells #[.slice none 0 0, .int .i64 0, .int .i64 0, .slice none 0 0, .int .i64 0, .int .i64 0, .slice none 0 0] 29) = W0 at *
  generalize hG6 : w.heap.size + 1 + 1 = g6 at *
  generalize hG5 : w.heap.size + 1 = g5 at *
  generalize hG3 : w.heap.size = g3 at x3 ⊢
  replace hG6 := Lib.hid hG6
  replace hG5 := Lib.hid hG5
  replace hG3 := Lib.hid hG3
  obtain ⟨-, -, -, a3, a4, a5, a6⟩ := box7_cells x3
  go_wp2_with fail
  refine hen.out.mono ?_
  rintro e w1 ⟨v9, rfl, o9, hb1⟩
  obtain ⟨A9, c9, rfl, -, -⟩ := o9.sees.mk_
  replace x3 := x3.below hb1
  replace x5 := x5.below hb1
  replace x6 := x6.below hb1
  replace su := Lib.hid (seesB_of su.out (Nat.le_refl _) hb1)
  replace sn := Lib.hid (seesL_of sn.out (Nat.le_refl _) hb1)
  replace sP := Lib.hid (seesB_of sP.out (Nat.le_refl _) hb1)
  replace sS := Lib.hid (seesB_of sS.out (Nat.le_refl _) hb1)
  replace hbw := Lib.hid (bgo hbw.out hb1)
  have sc := Lib.hid o9.sees
  clear a3 a4 a5 a6 hen hb1 o9
  dsimp only
  by_cases E1 : dencC P f t S = 0
  rotate_left
  · have hr : Hid (dansR sd h n P f t S ns lo hi = (noGrant, [], dencC P f t S)) := by show _ = _; rw [hD.out, if_neg E1]
    have hE : (dencC P f t S == 0) = false := by simp [E1]
    generalize dencC P f t S = E at *
    replace E1 := Lib.hid E1
    clear x3 x5 sc
    obtain ⟨y0, y1, y2, y3, y4, y5, y6⟩ := box7_cells x6
    obtain ⟨f0, f1, f2, f3, f4, f5, f6⟩ := box7_soft x6
    go_wp2_with fail
    have k := box_set7 x6 (.slice none 0 0) (.int .i64 0) (.int .i64 0) (.slice none 0 0) (.int .i64 0) (.int .i64 0) (.slice none 0 0)
    have kb := Lib.hid (below_set7 hbw.out hg6.out (.slice none 0 0) (.int .i64 0) (.int .i64 0) (.slice none 0 0) (.int .i64 0) (.int .i64 0) (.slice none 0 0))
    clear y0 y1 y2 y3 y4 y5 y6 f0 f1 f2 f3 f4 f5 f6 x6
    generalize ((((((w1.setCell ⟨g6, 0, none⟩ (.slice none 0 0)).setCell ⟨g6, 1, none⟩ (.int .i64 0)).setCell ⟨g6, 2, none⟩ (.int .i64 0)).setCell ⟨g6, 3, none⟩ (.slice none 0 0)).setCell ⟨g6, 4, none⟩ (.int .i64 0)).setCell ⟨g6, 5, none⟩ (.int .i64 0)).setCell ⟨g6, 6, none⟩ (.slice none 0 0) = W9 at *
    obtain ⟨z0, z1, z2, z3, z4, z5, z6⟩ := box7_cells k
    try simp only [Exit.inBlock, Exit.then]
    refine bodyPost_ret (v := .tuple #[.agg #[.slice none 0 0, .int .i64 0, .int .i64 0, .slice none 0 0, .int .i64 0, .int .i64 0, .slice none 0 0], .slice none 0 0, .int .i64 E]) (by simp [results, Tryz.results8, go_sem, z0, z1, z2, z3, z4, z5, z6]) rfl ?_
    exact dans_bad hr.out kb.out
  have hcl : Hid ((dencB P f t S).length ≤ 2048) := by
    obtain ⟨e1, e2⟩ := dtags_enc P f t S E1
    show _ ≤ _
    rw [← e2]
    exact encT_len _
  have hcm := Lib.hid (denc_mod P f t S)
  rw [E1, if_pos rfl] at hD
  rw [E1]
  replace E1 := Lib.hid E1
  generalize dencB P f t S = C at *
  have hans := answer_any w1.heap.size _ _ sd h n ns lo hi w1 su.out sn.out (Nat.le_refl _) hn9.out
  have hal9 : Hid ((answerR sd h n ns lo hi).2.2 = 0 → 1 ≤ (answerR sd h n ns lo hi).2.1.length ∧ (answerR sd h n ns lo hi).2.1.length ≤ 16 ∧ (∀ a ∈ (answerR sd h n ns lo hi).2.1, a.length ≤ 2048 ∧ a.length % 4 = 0)) := fun h0 => answer_props h0
  unfold AnswerP at hans
  generalize answerR sd h n ns lo hi = R at *
  obtain ⟨⟨rs, rh, rn⟩, ys, rc⟩ := R
  dsimp only at hans hD hal9
  replace hans := Lib.hid hans
  obtain ⟨a0, a1, a2, -, -, -, -⟩ := box7_cells x3
  obtain ⟨b0, b1⟩ := boxT2 x5
  go_wp2_with fail
  refine hans.out.mono ?_
  rintro e w2 ⟨v7, v12, rfl, el, o12, hb2⟩
  obtain ⟨A7, c7, rfl, -, -⟩ := el.1.mk_
  obtain ⟨A12, c12, rfl⟩ := o12.shape
  have hlt2 := Lib.hid (fun k hk => o12.lt k hk)
  have hal2 := balloc w2 (.cells #[.slice A7 rs.length c7, .int .i64 rh, .int .i64 rn] 25)
  have x11 := Box.new w2 25 [.slice A7 rs.length c7, .int .i64 rh, .int .i64 rn]
  change Box (w2.alloc (.cells #[.slice A7 rs.length c7, .int .i64 rh, .int .i64 rn] 25)) _ _ _ at x11
  have hb12 := Lib.hid (bgo hb2 hal2)
  have z6 := x6.lt
  have z3 := x3.lt
  replace z6 := Lib.hid z6
  replace z3 := Lib.hid z3
  have hw1w := Lib.hid hbw.out
  have sc1 := sc
  have sP1 := sP
  have sS1 := sS
  have x31 := Lib.hid x3
  have x61 := Lib.hid x6
  replace x3 := x3.below hb12.out
  replace x5 := x5.below hb12.out
  replace x6 := x6.below hb12.out
  replace su := Lib.hid (seesB_of su.out (Nat.le_refl _) hb12.out)
  replace sn := Lib.hid (seesL_of sn.out (Nat.le_refl _) hb12.out)
  replace sP := Lib.hid (seesB_of sP.out (Nat.le_refl _) hb12.out)
  replace sS := Lib.hid (seesB_of sS.out (Nat.le_refl _) hb12.out)
  replace hbw := Lib.hid (bgo hbw.out hb12.out)
  replace sc := Lib.hid (seesB_of sc.out (Nat.le_refl _) hb12.out)
  replace o12 := Lib.hid (o12.below hal2)
  replace el := Lib.hid (el.below hal2)
  clear hb2 hal2 hans a0 a1 a2 b0 b1
  dsimp only
  go_upto_region 5 with (fail)
  generalize w2.alloc (.cells #[.slice A7 rs.length c7, .int .i64 rh, .int .i64 rn] 25) = W2 at *
  generalize hG11 : w2.heap.size = g11 at *
  replace hG11 := Lib.hid hG11
  by_cases E2 : rc = 0
  rotate_left
  · have hr : Hid (dansR sd h n P f t S ns lo hi = (noGrant, [], rc)) := by show _ = _; rw [hD.out, if_neg E2]
    have hE : (rc == 0) = false := by simp [E2]
    replace E2 := Lib.hid E2
    clear x3 x5 sc x11 o12 el
    obtain ⟨y0, y1, y2, y3, y4, y5, y6⟩ := box7_cells x6
    obtain ⟨f0, f1, f2, f3, f4, f5, f6⟩ := box7_soft x6
    go_wp2_with fail
    have k := box_set7 x6 (.slice none 0 0) (.int .i64 0) (.int .i64 0) (.slice none 0 0) (.int .i64 0) (.int .i64 0) (.slice none 0 0)
    have kb := Lib.hid (below_set7 hbw.out hg6.out (.slice none 0 0) (.int .i64 0) (.int .i64 0) (.slice none 0 0) (.int .i64 0) (.int .i64 0) (.slice none 0 0))
    clear y0 y1 y2 y3 y4 y5 y6 f0 f1 f2 f3 f4 f5 f6 x6
    generalize ((((((W2.setCell ⟨g6, 0, none⟩ (.slice none 0 0)).setCell ⟨g6, 1, none⟩ (.int .i64 0)).setCell ⟨g6, 2, none⟩ (.int .i64 0)).setCell ⟨g6, 3, none⟩ (.slice none 0 0)).setCell ⟨g6, 4, none⟩ (.int .i64 0)).setCell ⟨g6, 5, none⟩ (.int .i64 0)).setCell ⟨g6, 6, none⟩ (.slice none 0 0) = W9 at *
    obtain ⟨z0, z1, z2, z3, z4, z5, z6⟩ := box7_cells k
    try simp only [Exit.inBlock, Exit.then]
    refine bodyPost_ret (v := .tuple #[.agg #[.slice none 0 0, .int .i64 0, .int .i64 0, .slice none 0 0, .int .i64 0, .int .i64 0, .slice none 0 0], .slice none 0 0, .int .i64 rc]) (by simp [results, Tryz.results8, go_sem, z0, z1, z2, z3, z4, z5, z6]) rfl ?_
    exact dans_bad hr.out kb.out
  subst E2
  rw [if_pos rfl] at hD
  obtain ⟨hy1, hy2, hyl⟩ := hal9.out rfl
  replace hyl := Lib.hid hyl
  have hwn := Lib.hid (fun W => dwindow_any A2 P.length c2 A3 S.length c3 f t W)
  have hin := Lib.hid (fun W => inside_any lo hi f t W)
  have K : Hid (∀ W, Below W2.heap.size W2 W → W.cell? ⟨g3, 3, none⟩ = some (.slice A2 P.length c2) ∧ W.cell? ⟨g3, 4, none⟩ = some (.int .i64 f) ∧ W.cell? ⟨g3, 5, none⟩ = some (.int .i64 t) ∧ W.cell? ⟨g3, 6, none⟩ = some (.slice A3 S.length c3) ∧ W.cell? ⟨g5, 0, none⟩ = some (.int .i64 lo) ∧ W.cell? ⟨g5, 1, none⟩ = some (.int .i64 hi)) := fun W hW => ⟨(x3.below hW).cell 3, (x3.below hW).cell 4, (x3.below hW).cell 5, (x3.below hW).cell 6, (x5.below hW).cell 0, (x5.below hW).cell 1⟩
  obtain ⟨k0, k1, k2, k3, k4, k5⟩ := K.out W2 (Below.refl _ _)
  generalize hI : inS lo hi f t = I at *
  replace hI := Lib.hid hI
  replace x5 := Lib.hid x5
  go_wp2_with fail
  go_cut [41] (fun v W => v = .bool (!I) ∧ Hid (Below W2.heap.size W2 W))
  case first =>
    clear x3 x5 x6 x11
    go_region_held3 (fun W' : World => W'.cell? ⟨g3, 3, none⟩ = some (.slice A2 P.length c2) ∧ W'.cell? ⟨g3, 4, none⟩ = some (.int .i64 f) ∧ W'.cell? ⟨g3, 5, none⟩ = some (.int .i64 t) ∧ W'.cell? ⟨g3, 6, none⟩ = some (.slice A3 S.length c3) ∧ W'.cell? ⟨g5, 0, none⟩ = some (.int .i64 lo) ∧ W'.cell? ⟨g5, 1, none⟩ = some (.int .i64 hi))
      (first | (with_reducible exact K.out _ hb9) | (with_reducible exact K.out _ hb8) | exact K.out _ (by (repeat (first | exact Below.refl _ _ | (refine bgo ?_ (balloc _ _)) | (refine bgo ?_ (bdrew _)) | (refine bgo ?_ (by assumption))))) | (go_keep; done))
      (first
        | (go_at_call 18; (with_reducible refine (hin.out w8).mono ?_); rintro e w9 ⟨rfl, hb9⟩
           replace hb9 := bgo hb8 hb9)
        | (go_at_call 19; (with_reducible refine (hwn.out W2.drew).mono ?_); rintro e w8 ⟨rfl, hb8⟩
           replace hb8 := bgo (bdrew W2) hb8)
        | (go_at_call 19; (with_reducible refine (hwn.out W2).mono ?_); rintro e w8 ⟨rfl, hb8⟩))
    all_goals
      go_wp2_with fail
      go_meet
      exact ⟨rfl, hb9⟩
  case rest =>
  obtain ⟨rfl, hb9⟩ := hcut
  obtain ⟨w4, rfl⟩ : ∃ w4 : World, w4 = wc := ⟨_, rfl⟩
  replace x6 := x6.below hb9.out
  replace x11 := x11.below hb9.out
  replace sc := Lib.hid (seesB_of sc.out (Nat.le_refl _) hb9.out)
  replace o12 := Lib.hid (o12.out.below hb9.out)
  replace el := Lib.hid (el.out.below hb9.out)
  replace hb12 := Lib.hid (bgo hb12.out hb9.out)
  replace hbw := Lib.hid (bgo hbw.out hb9.out)
  have hg11 : Hid (w2.heap.size ≤ g11) := by show _ ≤ _; rw [hG11.out]; exact Nat.le_refl _
  have h4g : Hid (g11 < w4.heap.size) := x11.lt
  clear k0 k1 k2 k3 k4 k5 K hwn hin x3 x5 sn su
  cases I with
  | false =>
    have hr : Hid (dansR sd h n P f t S ns lo hi = (noGrant, [], 25)) := by show _ = _; rw [hD.out]; rfl
    clear x11
    obtain ⟨y0, y1, y2, y3, y4, y5, y6⟩ := box7_cells x6
    obtain ⟨f0, f1, f2, f3, f4, f5, f6⟩ := box7_soft x6
    go_wp2_with fail
    have k := box_set7 x6 (.slice none 0 0) (.int .i64 0) (.int .i64 0) (.slice none 0 0) (.int .i64 0) (.int .i64 0) (.slice none 0 0)
    have kb := Lib.hid (below_set7 hbw.out hg6.out (.slice none 0 0) (.int .i64 0) (.int .i64 0) (.slice none 0 0) (.int .i64 0) (.int .i64 0) (.slice none 0 0))
    clear y0 y1 y2 y3 y4 y5 y6 f0 f1 f2 f3 f4 f5 f6 x6
    generalize ((((((w4.setCell ⟨g6, 0, none⟩ (.slice none 0 0)).setCell ⟨g6, 1, none⟩ (.int .i64 0)).setCell ⟨g6, 2, none⟩ (.int .i64 0)).setCell ⟨g6, 3, none⟩ (.slice none 0 0)).setCell ⟨g6, 4, none⟩ (.int .i64 0)).setCell ⟨g6, 5, none⟩ (.int .i64 0)).setCell ⟨g6, 6, none⟩ (.slice none 0 0) = W9 at *
    obtain ⟨z0, z1, z2, z3, z4, z5, z6⟩ := box7_cells k
    try simp only [Exit.inBlock, Exit.then]
    refine bodyPost_ret (v := .tuple #[.agg #[.slice none 0 0, .int .i64 0, .int .i64 0, .slice none 0 0, .int .i64 0, .int .i64 0, .slice none 0 0], .slice none 0 0, .int .i64 25]) (by simp [results, Tryz.results8, go_sem, z0, z1, z2, z3, z4, z5, z6]) rfl ?_
    exact dans_bad hr.out kb.out
  | true =>
  replace hD : Hid (dansR sd h n P f t S ns lo hi = if wrapOk C ys = true then (((rs, rh, rn), (P, f, t, S)), ys.map (wrapB C), 0) else (noGrant, [], 2)) := by show _ = _; rw [hD.out, if_pos rfl]
  obtain ⟨gA, rfl⟩ := o12.out.at_ (by omega)
  have hgA := hlt2.out gA rfl
  have hn11 : gA ≠ g11 := by have := hG11.out; omega
  have hsz4 : Hid (w2.heap.size ≤ w4.heap.size) := by show _ ≤ _; have := hG11.out; have := h4g.out; omega
  have hnm := Lib.hid (dnames_eq w4)
  have xN := Box.new (w4.alloc (.cells #[.string ⟨#[75, 69, 89, 83]⟩, .string ⟨#[83, 73, 71, 78]⟩, .string ⟨#[83, 80, 65, 78]⟩] 9)) 9 [.string ⟨#[65, 78, 83, 87]⟩, .string ⟨#[67, 69, 82, 84]⟩]
  rw [World.size_alloc] at xN
  change Box ((w4.alloc (.cells #[.string ⟨#[75, 69, 89, 83]⟩, .string ⟨#[83, 73, 71, 78]⟩, .string ⟨#[83, 80, 65, 78]⟩] 9)).alloc (.cells #[.string ⟨#[65, 78, 83, 87]⟩, .string ⟨#[67, 69, 82, 84]⟩] 9)) _ _ _ at xN
  have hbN := bgo (balloc w4 (.cells #[.string ⟨#[75, 69, 89, 83]⟩, .string ⟨#[83, 73, 71, 78]⟩, .string ⟨#[83, 80, 65, 78]⟩] 9)) (balloc _ (.cells #[.string ⟨#[65, 78, 83, 87]⟩, .string ⟨#[67, 69, 82, 84]⟩] 9))
  replace x6 := x6.below hbN
  replace x11 := x11.below hbN
  replace o12 := Lib.hid (o12.out.below hbN)
  replace el := Lib.hid (el.out.below hbN)
  replace hb12 := Lib.hid (bgo hb12.out hbN)
  replace hbw := Lib.hid (bgo hbw.out hbN)
  have hnN : gA ≠ w4.heap.size + 1 := by have := h4g.out; omega
  replace hgA := Lib.hid hgA
  replace hn11 := Lib.hid hn11
  replace hnN := Lib.hid hnN
  have hlt : (0 : Int) < (ys.length : Int) := by omega
  go_wp2_with fail
  refine hnm.out.mono ?_
  rintro e w5 ⟨rfl, hw5⟩
  subst hw5
  dsimp only
  go_upto_region 10 with (fail)
  generalize (w4.alloc (.cells #[.string ⟨#[75, 69, 89, 83]⟩, .string ⟨#[83, 73, 71, 78]⟩, .string ⟨#[83, 80, 65, 78]⟩] 9)).alloc (.cells #[.string ⟨#[65, 78, 83, 87]⟩, .string ⟨#[67, 69, 82, 84]⟩] 9) = W5 at *
  generalize w4.heap.size + 1 = gN at *
  clear hnm hbN
  replace x6 := Lib.hid x6
  replace x11 := Lib.hid x11
  replace xN := Lib.hid xN
  go_wp2_with fail
  go_loopw [55] (fun tt wr => ∃ k : Nat, k ≤ ys.length ∧ tt = .int .i64 k ∧ Hid (OwnL wr w1.heap.size (.slice (some ⟨gA, 0, none⟩) ys.length c12) (mixL C ys k)) ∧ Hid (Below w1.heap.size w1 wr) ∧ Hid (Box wr g11 25 [.slice A7 rs.length c7, .int .i64 rh, .int .i64 rn]) ∧ Hid (Box wr gN 9 [.string ⟨#[65, 78, 83, 87]⟩, .string ⟨#[67, 69, 82, 84]⟩]) ∧ Hid (Elt wr (.slice (some ⟨gA, 0, none⟩) ys.length c12) (.slice A7 rs.length c7) rs) ∧ Hid (wrapOk C (ys.take k) = true)) (fun tt _ => ys.length - (intOf tt).toNat)
  case atStart => exact ⟨0, by omega, rfl, by rw [mixL_zero]; exact o12.out, hb12.out, x11.out, xN.out, el.out, rfl⟩
  case round =>
    obtain ⟨k, hk, rfl, ho, hb, hx11, hxN, hel, hok⟩ := hrel
    by_cases hlt9 : k < ys.length
    · have i0 : (k : Int) < (ys.length : Int) := by omega
      have hml := mixL_len C ys k hk
      obtain ⟨b6, o6, e6, hb6, hcell⟩ := ho.out.sees.at_ (by rw [hml]; omega)
      obtain ⟨A', c', y1, -, -, sy⟩ := hcell k (by rw [hml]; exact hlt9)
      injection e6 with e6
      injection e6 with e61 e62
      subst e61
      subst e62
      rw [Nat.zero_add] at y1
      rw [mixL_get C ys k hlt9] at y1 sy
      have hdk : ys[k]? = some (ys.getD k []) := by rw [List.getD_eq_getElem?_getD, List.getElem?_eq_getElem hlt9]; rfl
      have hmem : ys.getD k [] ∈ ys := List.mem_of_getElem? hdk
      have hal := (hyl.out _ hmem).1
      have hst := Lib.hid (mixL_step C ys k _ hdk)
      have hws := Lib.hid (wrapOk_step C ys k _ hdk)
      generalize ys.getD k [] = a at *
      obtain ⟨⟨zc, hzc⟩, hzf⟩ := ho.out.cell (k := k) (by rw [hml]; exact hlt9)
      have sa := seesB_of sy (Nat.le_refl _) (Below.refl _ _)
      have sC := seesB_of sc1.out (Nat.le_refl _) hb.out
      have hnA := namesA_box hxN.out
      have hla := balloc wr (.cells #[.slice A' a.length c', .slice A9 C.length c9] 23)
      have hL := seesL_lit wr 23 (vs := [.slice A' a.length c', .slice A9 C.length c9]) (ls := [a, C]) ⟨sa, sC, trivial⟩ (by simp [maxLen])
      have hms := message_any _ _ _ namesA [a, C] _ ((hnA.below hla).more hla.size) hL (Nat.le_refl _) rfl (by simp [namesA]) (by
        have h1 := hcl.out
        simp only [namesA, List.zip_cons_cons, List.zip_nil_right, dataT, List.map_cons, List.map_nil, List.flatten_cons, List.flatten_nil, List.length_append, List.length_nil]
        omega)
      rw [wrap_zip] at hms
      unfold EncP at hms
      have hwb : Hid (wrapB C a = encT (wrapT a C)) := rfl
      have hj0 : (0 : Int) ≤ (k : Int) := by omega
      replace hms := Lib.hid hms
      replace hmem := Lib.hid hmem
      replace hdk := Lib.hid hdk
      replace hml := Lib.hid hml
      clear hL sa sC hnA sy hcell hzc hzf
      go_wp2_with fail
      refine hms.out.mono ?_
      rintro e w7 ⟨v8, rfl, o8, hb7⟩
      generalize encT (wrapT a C) = AB at *
      obtain ⟨A8, c8, rfl, -, -⟩ := o8.sees.mk_
      have hb8 := bgo hla hb7
      have ho8 := ho.out.below hb8
      obtain ⟨⟨zc, hzc⟩, hzf⟩ := ho8.cell (k := k) (by rw [hml.out]; exact hlt9)
      have hel8 := Elt.of_from (v := .slice (some ⟨gA, 0, none⟩) ys.length c12) o8.sees o8.from (fun q hq => by cases hq; exact ((ho.out.below hla).lt gA rfl).2)
      obtain ⟨hos, hbs⟩ := ho8.set (k := k) (by rw [hml.out]; exact hlt9) hel8
      have hgr := setCell_grown w7 gA k (.slice A8 AB.length c8)
      have hx11' := Lib.hid ((hx11.out.below hb8).other (j := k) (v := .slice A8 AB.length c8) hn11.out.symm)
      have hxN' := Lib.hid ((hxN.out.below hb8).other (j := k) (v := .slice A8 AB.length c8) hnN.out.symm)
      have hel' : Hid (Elt (w7.setCell ⟨gA, k, none⟩ (.slice A8 AB.length c8)) (.slice (some ⟨gA, 0, none⟩) ys.length c12) (.slice A7 rs.length c7) rs) := ⟨(hel.out.below hb8).grown hgr, hel.out.2⟩
      have hbk := Lib.hid ((hb.out.trans (hb8.mono hb.out.size)).trans hbs)
      replace hos : Hid (OwnL (w7.setCell ⟨gA, k, none⟩ (.slice A8 AB.length c8)) w1.heap.size (.slice (some ⟨gA, 0, none⟩) ys.length c12) (mixL C ys (k + 1))) := by
        show OwnL _ _ _ _
        rw [← hst.out, hwb.out]
        exact hos
      have hwC := hws.out
      clear hms hla hb7 hb8 ho8 hel8 hbs hgr o8 y1
      dsimp only
      by_cases E8 : encC (wrapT a C) = 0
      · have hok' : Hid (wrapOk C (ys.take (k + 1)) = true) := by show _ = _; rw [hwC, hok.out, E8]; rfl
        rw [E8]
        replace E8 := Lib.hid E8
        replace hwC := Lib.hid hwC
        go_wp2_with fail
        go_roundw
        case rel => first | exact ⟨k + 1, by omega, by go_num, hos, hbk, hx11', hxN', hel', hok'⟩ | ((repeat apply Exists.intro); exact ⟨⟨k + 1, by omega, by go_num, hos, hbk, hx11', hxN', hel', hok'⟩, rfl⟩)
        case measure => simp [intOf]; omega
      · have hr : Hid (dansR sd h n P f t S ns lo hi = (noGrant, [], 2)) := by show _ = _; rw [hD.out, wrapOk_false hmem.out E8]; rfl
        have hE : (encC (wrapT a C) == 0) = false := by simp [E8]
        generalize encC (wrapT a C) = E at *
        replace E8 := Lib.hid E8
        replace hwC := Lib.hid hwC
        have x6 := below_boxB hbk.out x61.out z6.out
        replace hbw := Lib.hid (hw1w.out.trans (hbk.out.mono hw1w.out.size))
        go_upto_region 15 with (fail)
        clear hzc hzf
        generalize w7.setCell ⟨gA, k, none⟩ (.slice A8 AB.length c8) = W7 at *
        obtain ⟨y0, y1, y2, y3, y4, y5, y6⟩ := box7_cells x6
        obtain ⟨f0, f1, f2, f3, f4, f5, f6⟩ := box7_soft x6
        go_wp2_with fail
        have k := box_set7 x6 (.slice none 0 0) (.int .i64 0) (.int .i64 0) (.slice none 0 0) (.int .i64 0) (.int .i64 0) (.slice none 0 0)
        have kb := Lib.hid (below_set7 hbw.out hg6.out (.slice none 0 0) (.int .i64 0) (.int .i64 0) (.slice none 0 0) (.int .i64 0) (.int .i64 0) (.slice none 0 0))
        clear y0 y1 y2 y3 y4 y5 y6 f0 f1 f2 f3 f4 f5 f6 x6
        generalize ((((((W7.setCell ⟨g6, 0, none⟩ (.slice none 0 0)).setCell ⟨g6, 1, none⟩ (.int .i64 0)).setCell ⟨g6, 2, none⟩ (.int .i64 0)).setCell ⟨g6, 3, none⟩ (.slice none 0 0)).setCell ⟨g6, 4, none⟩ (.int .i64 0)).setCell ⟨g6, 5, none⟩ (.int .i64 0)).setCell ⟨g6, 6, none⟩ (.slice none 0 0) = W9 at *
        obtain ⟨z0, z1, z2, z3, z4, z5, z6⟩ := box7_cells k
        try simp only [Exit.inBlock, Exit.then]
        refine bodyPost_ret (v := .tuple #[.agg #[.slice none 0 0, .int .i64 0, .int .i64 0, .slice none 0 0, .int .i64 0, .int .i64 0, .slice none 0 0], .slice none 0 0, .int .i64 2]) (by simp [results, Tryz.results8, go_sem, z0, z1, z2, z3, z4, z5, z6]) rfl ?_
        exact dans_bad hr.out kb.out
    · obtain rfl : k = ys.length := by omega
      have i0 : ¬ (ys.length : Int) < (ys.length : Int) := by omega
      rw [List.take_of_length_le (Nat.le_refl _)] at hok
      have hr : Hid (dansR sd h n P f t S ns lo hi = (((rs, rh, rn), (P, f, t, S)), ys.map (wrapB C), 0)) := by show _ = _; rw [hD.out, if_pos hok.out]
      rw [mixL_all] at ho
      have x6 := below_boxB hb.out x61.out z6.out
      have x3 := below_boxB hb.out x31.out z3.out
      replace hbw := Lib.hid (hw1w.out.trans (hb.out.mono hw1w.out.size))
      have kg := Lib.hid (kgranted2_any _ A sd.length c A7 rs.length c7 _ _ h n rh rn P S f t wr (seesB_of sP1.out (Nat.le_refl _) hb.out) (seesB_of sS1.out (Nat.le_refl _) hb.out) (Nat.le_refl _) (by have := hP9.out; omega) (by have := hS9.out; omega))
      obtain ⟨q0, q1, q2, q3, q4, q5, q6⟩ := box7_cells x3
      obtain ⟨e0, e1, e2, -, -, -⟩ := box3_cells hx11.out
      go_wp2_with fail
      refine kg.out.mono ?_
      rintro e w9 ⟨v2', v3', rfl, m2, m3, hb9'⟩
      obtain ⟨B2, d2, rfl, -, -⟩ := m2.mk_
      obtain ⟨B3, d3, rfl, -, -⟩ := m3.mk_
      replace x6 := x6.below hb9'
      replace hbw := Lib.hid (bgo hbw.out hb9')
      have m1 := (hel.out.below hb9').1
      have m4 := ho.out.below hb9'
      clear q0 q1 q2 q3 q4 q5 q6 e0 e1 e2 kg x3
      obtain ⟨y0, y1, y2, y3, y4, y5, y6⟩ := box7_cells x6
      obtain ⟨f0, f1, f2, f3, f4, f5, f6⟩ := box7_soft x6
      dsimp only
      go_wp2_with fail
      have k := box_set7 x6 (.slice A7 rs.length c7) (.int .i64 rh) (.int .i64 rn) (.slice B2 P.length d2) (.int .i64 f) (.int .i64 t) (.slice B3 S.length d3)
      have k1 := Lib.hid (sees_set7 x6 noZ7 (.slice A7 rs.length c7) (.int .i64 rh) (.int .i64 rn) (.slice B2 P.length d2) (.int .i64 f) (.int .i64 t) (.slice B3 S.length d3) m1)
      have k2 := Lib.hid (sees_set7 x6 noZ7 (.slice A7 rs.length c7) (.int .i64 rh) (.int .i64 rn) (.slice B2 P.length d2) (.int .i64 f) (.int .i64 t) (.slice B3 S.length d3) m2)
      have k3 := Lib.hid (sees_set7 x6 noZ7 (.slice A7 rs.length c7) (.int .i64 rh) (.int .i64 rn) (.slice B2 P.length d2) (.int .i64 f) (.int .i64 t) (.slice B3 S.length d3) m3)
      have k4 := Lib.hid (SeesL.set7 x6 noZ7 (Nat.le_refl _) (fun q hq => by cases hq; show gA ≠ g6; have := (m4.lt gA rfl).1; have := z6.out; omega) (.slice A7 rs.length c7) (.int .i64 rh) (.int .i64 rn) (.slice B2 P.length d2) (.int .i64 f) (.int .i64 t) (.slice B3 S.length d3) m4.sees)
      have kb := Lib.hid (below_set7 hbw.out hg6.out (.slice A7 rs.length c7) (.int .i64 rh) (.int .i64 rn) (.slice B2 P.length d2) (.int .i64 f) (.int .i64 t) (.slice B3 S.length d3))
      have hzs : Hid ((((((((w9.setCell ⟨g6, 0, none⟩ (.slice A7 rs.length c7)).setCell ⟨g6, 1, none⟩ (.int .i64 rh)).setCell ⟨g6, 2, none⟩ (.int .i64 rn)).setCell ⟨g6, 3, none⟩ (.slice B2 P.length d2)).setCell ⟨g6, 4, none⟩ (.int .i64 f)).setCell ⟨g6, 5, none⟩ (.int .i64 t)).setCell ⟨g6, 6, none⟩ (.slice B3 S.length d3)).heap.size = w9.heap.size) := by show _ = _; simp [World.setCell]
      clear y0 y1 y2 y3 y4 y5 y6 f0 f1 f2 f3 f4 f5 f6 x6
      generalize ((((((w9.setCell ⟨g6, 0, none⟩ (.slice A7 rs.length c7)).setCell ⟨g6, 1, none⟩ (.int .i64 rh)).setCell ⟨g6, 2, none⟩ (.int .i64 rn)).setCell ⟨g6, 3, none⟩ (.slice B2 P.length d2)).setCell ⟨g6, 4, none⟩ (.int .i64 f)).setCell ⟨g6, 5, none⟩ (.int .i64 t)).setCell ⟨g6, 6, none⟩ (.slice B3 S.length d3) = W9 at *
      obtain ⟨z0, z1, z2, z3', z4, z5, z6'⟩ := box7_cells k
      refine bodyPost_ret (v := .tuple #[.agg #[.slice A7 rs.length c7, .int .i64 rh, .int .i64 rn, .slice B2 P.length d2, .int .i64 f, .int .i64 t, .slice B3 S.length d3], .slice (some ⟨gA, 0, none⟩) ys.length c12, .int .i64 0]) (by simp [results, Tryz.results8, go_sem, z0, z1, z2, z3', z4, z5, z6']) rfl ?_
      exact dans_ok hr.out k1.out k2.out k3.out (by rw [hzs.out]; exact k4.out) kb.out
end
section
open Go.RowKit
set_option linter.unusedVariables false
set_option linter.unusedSimpArgs false
attribute [local go_sem ↓] Go.wp_at_zero Go.wp_at_succ
set_option maxRecDepth 100000 in
set_option maxHeartbeats 8000000 in
theorem ddecode_any (B : Nat) (u : Value) (b : Bs) (w : World) (hu : SeesB w B u b) (hB : B ≤ w.heap.size) (hl : b.length ≤ 1048576) :
    Calls Tryz.prog 25 #[u] w (DDecP b w) := by
  obtain ⟨A, c, rfl, -, -⟩ := hu.mk_
  have hal := balloc w (.cells #[.slice none 0 0, .int .i64 0, .int .i64 0, .slice none 0 0] 27)
  have h2 := Box.new w 27 [.slice none 0 0, .int .i64 0, .int .i64 0, .slice none 0 0]
  change Box (w.alloc (.cells #[.slice none 0 0, .int .i64 0, .int .i64 0, .slice none 0 0] 27)) _ _ _ at h2
  have su := seesB_of hu hB hal
  have hdec := decode_any _ _ b _ su (Nat.le_refl _) hl
  unfold DecP at hdec
  replace hdec := Lib.hid hdec
  have hg2 : Hid (w.heap.size ≤ w.heap.size) := Nat.le_refl _
  replace hal := Lib.hid hal
  clear hu
  go_enter Tryz.func25, Tryz.ntmps25
  go_upto_region 1 with (fail)
  generalize w.alloc (.cells #[.slice none 0 0, .int .i64 0, .int .i64 0, .slice none 0 0] 27) = W0 at *
  generalize hgg : w.heap.size = g2 at h2 ⊢
  have hg2 : Hid (w.heap.size ≤ g2) := by show _ ≤ _; omega
  replace hgg := Lib.hid hgg
  go_wp2_with fail
  refine hdec.out.mono ?_
  rintro e w1 ⟨v1, rfl, s1, hb1⟩
  have h2 := h2.below hb1
  have su1 := seesB_of su (Nat.le_refl _) hb1
  have hbw := Lib.hid (bgo hal.out hb1)
  obtain ⟨A1, c1, rfl, -, -⟩ := s1.mk_
  clear su hdec hal hb1
  dsimp only
  by_cases E0 : decC b = 0
  rotate_left
  · have hC := Lib.hid (delC_err E0)
    have hE : (decC b == 0) = false := by simp [E0]
    generalize decC b = E at *
    replace E0 := Lib.hid E0
    clear s1 su1
    obtain ⟨y0, y1, y2, y3, f0, f1, f2, f3⟩ := box4_cells h2
    go_wp2_with fail
    have k := box_set4 h2 (.slice none 0 0) (.int .i64 0) (.int .i64 0) (.slice none 0 0)
    have kb := Lib.hid (bset4 hbw.out hg2.out (.slice none 0 0) (.int .i64 0) (.int .i64 0) (.slice none 0 0))
    clear y0 y1 y2 y3 f0 f1 f2 f3 h2
    generalize (((w1.setCell ⟨g2, 0, none⟩ (.slice none 0 0)).setCell ⟨g2, 1, none⟩ (.int .i64 0)).setCell ⟨g2, 2, none⟩ (.int .i64 0)).setCell ⟨g2, 3, none⟩ (.slice none 0 0) = W9 at *
    obtain ⟨z0, z1, z2, z3, -, -, -, -⟩ := box4_cells k
    refine bodyPost_ret (v := .tuple #[.agg #[.slice none 0 0, .int .i64 0, .int .i64 0, .slice none 0 0], .int .i64 E]) (by simp [results, Tryz.results25, go_sem, z0, z1, z2, z3]) rfl ?_
    exact ddec_bad hC.out E0.out rfl kb.out
  rw [E0]
  replace E0 := Lib.hid E0
  go_wp2_with fail
  refine (dnames_any w1).mono ?_
  rintro e w2 ⟨v2, v2', rfl, s2, -, hb2⟩
  obtain ⟨A2, c2, rfl, -, -⟩ := s2.mk_
  have hpt := parts2_any w2.heap.size w2.heap.size _ _ (decT b) names3 w2 ((s1.below hb2).more hb2.size) s2 (Nat.le_refl _) (Nat.le_refl _) (Nat.le_trans (decT_len b) (by omega))
  unfold PartsP at hpt
  replace h2 := h2.below hb2
  replace su1 := seesB_of su1 (Nat.le_refl _) hb2
  replace hbw := Lib.hid (bgo hbw.out hb2)
  replace hpt := Lib.hid hpt
  clear s1 s2 hb2
  dsimp only
  go_wp2_with fail
  refine hpt.out.mono ?_
  rintro e w3 hP
  rcases hP with ⟨hnm, v3, rfl, ho, hb3⟩ | ⟨hnm, rfl, hb3⟩
  rotate_left
  · have hno : Hid (delC b = 3) := delC_no E0.out (by unfold delOk; rw [decide_eq_false hnm]; rfl)
    replace h2 := h2.below hb3
    replace hbw := Lib.hid (bgo hbw.out hb3)
    clear su1 hpt hb3
    dsimp only
    obtain ⟨y0, y1, y2, y3, f0, f1, f2, f3⟩ := box4_cells h2
    go_wp2_with fail
    have k := box_set4 h2 (.slice none 0 0) (.int .i64 0) (.int .i64 0) (.slice none 0 0)
    have kb := Lib.hid (bset4 hbw.out hg2.out (.slice none 0 0) (.int .i64 0) (.int .i64 0) (.slice none 0 0))
    clear y0 y1 y2 y3 f0 f1 f2 f3 h2
    generalize (((w3.setCell ⟨g2, 0, none⟩ (.slice none 0 0)).setCell ⟨g2, 1, none⟩ (.int .i64 0)).setCell ⟨g2, 2, none⟩ (.int .i64 0)).setCell ⟨g2, 3, none⟩ (.slice none 0 0) = W9 at *
    obtain ⟨z0, z1, z2, z3, -, -, -, -⟩ := box4_cells k
    refine bodyPost_ret (v := .tuple #[.agg #[.slice none 0 0, .int .i64 0, .int .i64 0, .slice none 0 0], .int .i64 3]) (by simp [results, Tryz.results25, go_sem, z0, z1, z2, z3]) rfl ?_
    exact ddec_bad hno.out (by decide) rfl kb.out
  replace h2 := h2.below hb3
  replace su1 := seesB_of su1 (Nat.le_refl _) hb3
  replace hbw := Lib.hid (bgo hbw.out hb3)
  have hL3 : ((decT b).map (·.2)).length = 3 := by
    have := congrArg List.length hnm
    simpa [names3] using this
  have hsl := ho.sees
  obtain ⟨A3, c3, rfl, -, -⟩ := hsl.mk_
  obtain ⟨b6, o6, rfl, hb6, hcell⟩ := hsl.at_ (by omega)
  obtain ⟨A10, c10, t0, -, -, sd0⟩ := hcell 0 (by omega)
  obtain ⟨A11, c11, t1, -, -, sd1⟩ := hcell 1 (by omega)
  obtain ⟨A12, c12, t2, -, -, sd2⟩ := hcell 2 (by omega)
  rw [dat_get b 0] at t0 sd0
  rw [dat_get b 1] at t1 sd1
  rw [dat_get b 2] at t2 sd2
  replace t0 : w3.cell? ⟨b6, o6, none⟩ = some (.slice A10 (datN b 0).length c10) := t0
  rw [hL3]
  have hdl0 := Nat.le_trans (datN_len b 0) hl
  have hbl : b.length ≤ 2048 := by
    by_cases h9 : 2048 < b.length
    · have := dec_long b h9
      rw [E0.out] at this
      omega
    · omega
  have hdl1 := Nat.le_trans (datN_len b 1) hbl
  have hun := Lib.hid (unspan_any w3.heap.size _ (datN b 2) w3 sd2 (Nat.le_refl _))
  have hok : Hid (delOk b = (decide ((datN b 0).length = 32) && (unpadG (datN b 1)).isSome && unOk (datN b 2))) := by
    show _ = _
    unfold delOk
    rw [decide_eq_true hnm]
    rfl
  have hbk : Hid (∀ s, unpadG (datN b 1) = some s → unOk (datN b 2) = true → (datN b 0).length = 32 → dencC (datN b 0) (unLo (datN b 2)) (unHi (datN b 2)) s = 0 ∧ dencB (datN b 0) (unLo (datN b 2)) (unHi (datN b 2)) s = b) := fun s h1 h2 h3 => del_back b s E0.out hnm h1 h2 h3
  have hq0 : Hid (∀ W, Below w3.heap.size w3 W → W.cell? ⟨b6, o6, none⟩ = some (.slice A10 (datN b 0).length c10) ∧ W.cell? ⟨b6, o6 + 1, none⟩ = some (.slice A11 (datN b 1).length c11)) := fun W hW => ⟨(hW.cell (p := ⟨b6, o6, none⟩) hb6).trans t0, (hW.cell (p := ⟨b6, o6 + 1, none⟩) hb6).trans t1⟩
  replace sd0 := Lib.hid sd0
  replace sd1 := Lib.hid sd1
  replace hnm := Lib.hid hnm
  clear hcell hsl ho hpt hb3 sd2 t0 t1 hL3 hl
  generalize hd0 : datN b 0 = d0 at *
  generalize hd1 : datN b 1 = d1 at *
  generalize hd2 : datN b 2 = d2 at *
  replace hd0 := Lib.hid hd0
  replace hd1 := Lib.hid hd1
  replace hd2 := Lib.hid hd2
  replace hdl0 := Lib.hid hdl0
  replace hdl1 := Lib.hid hdl1
  replace hbl := Lib.hid hbl
  dsimp only
  go_wp2_with fail
  refine hun.out.mono ?_
  rintro e w4 ⟨rfl, hb4⟩
  have hu4 : ∀ W, Below w4.heap.size w4 W → Below w3.heap.size w3 W := fun W hW => bgo hb4 hW
  have hal4 := balloc w4 (.cells #[.int .i64 (unA d2), .int .i64 (unB d2)] 40)
  have x10 := Box.new w4 40 [.int .i64 (unA d2), .int .i64 (unB d2)]
  change Box (w4.alloc (.cells #[.int .i64 (unA d2), .int .i64 (unB d2)] 40)) _ _ _ at x10
  have hb35 := bgo hb4 hal4
  have t1 := (hq0.out _ hb35).2
  have hct := Lib.hid (cut2_any _ _ d1 _ (seesB_of sd1.out (Nat.le_refl _) hb35) (Nat.le_refl _) (by have := hdl1.out; omega))
  dsimp only
  go_wp2_with fail
  generalize w4.alloc (.cells #[.int .i64 (unA d2), .int .i64 (unB d2)] 40) = W5 at *
  generalize w4.heap.size = g10 at *
  refine hct.out.mono ?_
  rintro e w6 ⟨A6, n6, c6, s6, rfl, sv6, hl6, hs6, hb6'⟩
  have hb36 := bgo hb35 hb6'
  have sd0' := seesB_of sd0.out (Nat.le_refl _) hb36
  have x10' := x10.below hb6'
  have h2 := h2.below hb36
  have su1 := seesB_of su1 (Nat.le_refl _) hb36
  have hbw := Lib.hid (bgo hbw.out hb36)
  have K : Hid (∀ W, Below w6.heap.size w6 W → W.cell? ⟨b6, o6, none⟩ = some (.slice A10 d0.length c10) ∧ W.cell? ⟨g10, 0, none⟩ = some (.int .i64 (unA d2)) ∧ W.cell? ⟨g10, 1, none⟩ = some (.int .i64 (unB d2))) := fun W hW => ⟨(hq0.out _ (bgo hb36 hW)).1, (x10'.below hW).cell 0, (x10'.below hW).cell 1⟩
  obtain ⟨k0, k1, k2⟩ := K.out w6 (Below.refl _ _)
  have hsl6 : n6 = s6.length := by
    obtain ⟨A', c', e, -, -⟩ := sv6.mk_
    cases e
    rfl
  subst hsl6
  replace hs6 := Lib.hid hs6
  replace hl6 := Lib.hid hl6
  clear t1 hct hal4 hb35 hb4 hu4 hb6' x10 hq0 sd0 sd1
  dsimp only
  go_upto_region 10 with (fail)
  go_cut [12] (fun v12 W => D12 w6 (.slice A10 d0.length c10) (unA d2) (unB d2) (.slice A6 s6.length c6) v12 W)
  case first =>
    have KA : Hid (∀ o : Obj, ((w6.alloc o).cell? ⟨b6, o6, none⟩ = some (.slice A10 d0.length c10) ∧ (w6.alloc o).cell? ⟨g10, 0, none⟩ = some (.int .i64 (unA d2)) ∧ (w6.alloc o).cell? ⟨g10, 1, none⟩ = some (.int .i64 (unB d2)))) := fun o => K.out _ (balloc w6 o)
    have bz := Box.new w6 27 [.slice none 0 0, .int .i64 0, .int .i64 0, .slice none 0 0]
    change Box (w6.alloc (.cells #[.slice none 0 0, .int .i64 0, .int .i64 0, .slice none 0 0] 27)) _ _ _ at bz
    obtain ⟨e0, e1, e2, e3, j0, j1, j2, j3⟩ := box4_cells bz
    go_region_held3 (fun W' : World => W'.cell? ⟨b6, o6, none⟩ = some (.slice A10 d0.length c10) ∧ W'.cell? ⟨g10, 0, none⟩ = some (.int .i64 (unA d2)) ∧ W'.cell? ⟨g10, 1, none⟩ = some (.int .i64 (unB d2)))
      (first | (with_reducible exact KA.out _) | exact K.out _ (by (repeat (first | exact Below.refl _ _ | (refine bgo ?_ (balloc _ _)) | (refine bgo ?_ (bdrew _)) | (refine bgo ?_ (by assumption))))) | (go_keep; done))
      (fail)
    all_goals
      go_wp2_with fail
      go_meet
      first
        | (with_reducible exact d12_new w6 _ _ _ _)
        | (with_reducible exact d12_set w6 _ _ _ _)
        | (with_reducible exact d12_drew (d12_new w6 _ _ _ _))
        | (with_reducible exact d12_drew (d12_set w6 _ _ _ _))
  case rest =>
    obtain ⟨g12, rfl, x12, hg12, hb7⟩ := hcut
    obtain ⟨w7, rfl⟩ : ∃ w7 : World, w7 = wc := ⟨_, rfl⟩
    have h2 := h2.below hb7
    have su1 := seesB_of su1 (Nat.le_refl _) hb7
    have hbw := Lib.hid (bgo hbw.out hb7)
    have sd0 := seesB_of sd0' (Nat.le_refl _) hb7
    have sv7 := seesB_of sv6 (Nat.le_refl _) hb7
    have hen := Lib.hid (dencode_any _ _ _ d0 s6 (unA d2) (unB d2) w7 sd0 sv7 (Nat.le_refl _) (by have := hdl0.out; omega) (by have := hl6.out; omega))
    obtain ⟨q0, q1, q2, q3, -, -, -, -⟩ := box4_cells x12
    clear sv6 sd0' hb7 hb36 K k0 k1 k2 x10'
    go_wp2_with fail
    refine hen.out.mono ?_
    rintro e w8 ⟨v8, rfl, o8, hb8⟩
    obtain ⟨A8, c8, rfl, -, -⟩ := o8.sees.mk_
    have h2 := h2.below hb8
    have su1 := seesB_of su1 (Nat.le_refl _) hb8
    have hbw := Lib.hid (bgo hbw.out hb8)
    have sd0 := seesB_of sd0 (Nat.le_refl _) hb8
    have sv8 := seesB_of sv7 (Nat.le_refl _) hb8
    have x12 := x12.below hb8
    have heq := Lib.hid (equal_any _ _ _ _ _ b w8 o8.sees su1)
    clear q0 q1 q2 q3 hen hb8 sv7 su1 o8
    have F1 : Hid (∀ s, unpadG d1 = some s → unOk d2 = true → d0.length = 32 → dencC d0 (unA d2) (unB d2) s6 = 0 ∧ dencB d0 (unA d2) (unB d2) s6 = b) := fun s hs hU h32 => by
      have hA : unA d2 = unLo d2 := by rw [unA, if_pos hU]
      have hB' : unB d2 = unHi d2 := by rw [unB, if_pos hU]
      rw [hA, hB', hs6.out s hs]
      exact hbk.out s hs hU h32
    have F2 : Hid (d0.length ≠ 32 → dencC d0 (unA d2) (unB d2) s6 = 5) := fun h => by rw [dencC, if_neg h]
    have F3 : Hid (unC d2 = if unOk d2 then 0 else 3) := rfl
    have F4 : Hid ((unpadG d1).isSome = true → ∃ s, unpadG d1 = some s) := fun h => Option.isSome_iff_exists.1 h
    have hok2 := hok
    dsimp only
    generalize hgI : (unpadG d1).isSome = I at *
    generalize hgC : unC d2 = C at *
    generalize hgE : dencC d0 (unA d2) (unB d2) s6 = E at *
    generalize hgB : dencB d0 (unA d2) (unB d2) s6 = Bk at *
    generalize hgD : delOk b = D at *
    replace hgI := Lib.hid hgI
    replace hgC := Lib.hid hgC
    replace hgE := Lib.hid hgE
    replace hgB := Lib.hid hgB
    replace hgD := Lib.hid hgD
    go_upto_region 12 with (fail)
    go_cut [80] from 65 to 81 (fun v W => W = w8 ∧ v = .bool (!D))
    case first =>
      clear sd0 sv8 x12 h2 hbw
      cases I with
      | false =>
        have hv : Hid ((!D) = true) := by show _ = _; rw [hok.out]; simp
        go_wp2_with fail
        go_meet
        exact ⟨rfl, by rw [hv.out]⟩
      | true =>
        cases hU : unOk d2 with
        | false =>
          have hv : Hid ((!D) = true) := by show _ = _; rw [hok.out, hU]; simp
          have hc3 : C = 3 := by rw [F3.out, hU]; rfl
          replace hU := Lib.hid hU
          subst hc3
          go_wp2_with fail
          go_meet
          exact ⟨rfl, by rw [hv.out]⟩
        | true =>
          have hc0 : C = 0 := by rw [F3.out, hU]; rfl
          subst hc0
          by_cases h32 : d0.length = 32
          · obtain ⟨s, hs⟩ := F4.out rfl
            obtain ⟨n1, n2⟩ := F1.out s hs hU h32
            have hv : Hid ((!D) = false) := by show _ = _; rw [hok.out, hU, decide_eq_true h32]; rfl
            replace hU := Lib.hid hU
            replace hs := Lib.hid hs
            replace h32 := Lib.hid h32
            subst n1
            have heq2 : Hid (Calls Tryz.prog 57 #[.slice A8 Bk.length c8, .slice A b.length c] w8 fun e w' => e = .returned (.bool true) ∧ w' = w8) := by
              have h9 := heq.out
              rw [show (Bk == b) = true by rw [n2]; exact beq_self_eq_true b] at h9
              exact h9
            replace n2 := Lib.hid n2
            clear heq
            go_wp2_with fail
            refine heq2.out.mono ?_
            rintro e w9 ⟨rfl, hw9⟩
            obtain rfl := hw9.symm
            dsimp only
            go_wp2_with fail
            go_meet
            exact ⟨rfl, by rw [hv.out]⟩
          · have hv : Hid ((!D) = true) := by show _ = _; rw [hok.out, decide_eq_false h32]; rfl
            have hc5 := F2.out h32
            subst hc5
            replace hU := Lib.hid hU
            replace h32 := Lib.hid h32
            go_wp2_with fail
            go_meet
            exact ⟨rfl, by rw [hv.out]⟩
    case rest =>
      obtain ⟨rfl, rfl⟩ := hcut
      obtain ⟨w8, rfl⟩ : ∃ w8 : World, w8 = wc := ⟨_, rfl⟩
      clear heq
      cases hD : D with
      | false =>
        have hno : Hid (delC b = 3) := delC_no E0.out (by rw [hgD.out, hD])
        replace hD := Lib.hid hD
        clear sd0 sv8 x12
        obtain ⟨y0, y1, y2, y3, f0, f1, f2, f3⟩ := box4_cells h2
        go_wp2_with fail
        have k := box_set4 h2 (.slice none 0 0) (.int .i64 0) (.int .i64 0) (.slice none 0 0)
        have kb := Lib.hid (bset4 hbw.out hg2.out (.slice none 0 0) (.int .i64 0) (.int .i64 0) (.slice none 0 0))
        clear y0 y1 y2 y3 f0 f1 f2 f3 h2
        generalize (((w8.setCell ⟨g2, 0, none⟩ (.slice none 0 0)).setCell ⟨g2, 1, none⟩ (.int .i64 0)).setCell ⟨g2, 2, none⟩ (.int .i64 0)).setCell ⟨g2, 3, none⟩ (.slice none 0 0) = W9 at *
        obtain ⟨z0, z1, z2, z3, -, -, -, -⟩ := box4_cells k
        refine bodyPost_ret (v := .tuple #[.agg #[.slice none 0 0, .int .i64 0, .int .i64 0, .slice none 0 0], .int .i64 3]) (by simp [results, Tryz.results25, go_sem, z0, z1, z2, z3]) rfl ?_
        exact ddec_bad hno.out (by decide) rfl kb.out
      | true =>
        have hyes := Lib.hid (delC_yes E0.out (by rw [hgD.out, hD]))
        have hD2 := hok2.out
        rw [hD] at hD2
        have hD3 := hD2.symm
        simp only [Bool.and_eq_true, decide_eq_true_eq] at hD3
        obtain ⟨⟨h32, hI⟩, hU⟩ := hD3
        obtain ⟨s, hs⟩ : ∃ s, unpadG d1 = some s := F4.out hI
        replace hD := Lib.hid hD
        replace hD2 := Lib.hid hD2
        have e6 := hs6.out s hs
        subst e6
        have hA : unA d2 = unLo d2 := by rw [unA, if_pos hU]
        have hB' : unB d2 = unHi d2 := by rw [unB, if_pos hU]
        rw [hA, hB'] at x12
        replace hU := Lib.hid hU
        replace hs := Lib.hid hs
        replace h32 := Lib.hid h32
        replace hI := Lib.hid hI
        clear hA hB'
        obtain ⟨y0, y1, y2, y3, f0, f1, f2, f3⟩ := box4_cells h2
        obtain ⟨q0, q1, q2, q3, -, -, -, -⟩ := box4_cells x12
        go_wp2_with fail
        have k := box_set4 h2 (.slice A10 d0.length c10) (.int .i64 (unLo d2)) (.int .i64 (unHi d2)) (.slice A6 s6.length c6)
        have kb := Lib.hid (bset4 hbw.out hg2.out (.slice A10 d0.length c10) (.int .i64 (unLo d2)) (.int .i64 (unHi d2)) (.slice A6 s6.length c6))
        have ks0 := Lib.hid (sees_set4 h2 noZ4 (.slice A10 d0.length c10) (.int .i64 (unLo d2)) (.int .i64 (unHi d2)) (.slice A6 s6.length c6) sd0)
        have ks6 := Lib.hid (sees_set4 h2 noZ4 (.slice A10 d0.length c10) (.int .i64 (unLo d2)) (.int .i64 (unHi d2)) (.slice A6 s6.length c6) sv8)
        clear y0 y1 y2 y3 f0 f1 f2 f3 h2 q0 q1 q2 q3 x12 sd0 sv8
        generalize (((w8.setCell ⟨g2, 0, none⟩ (.slice A10 d0.length c10)).setCell ⟨g2, 1, none⟩ (.int .i64 (unLo d2))).setCell ⟨g2, 2, none⟩ (.int .i64 (unHi d2))).setCell ⟨g2, 3, none⟩ (.slice A6 s6.length c6) = W9 at *
        obtain ⟨z0, z1, z2, z3, -, -, -, -⟩ := box4_cells k
        refine bodyPost_ret (v := .tuple #[.agg #[.slice A10 d0.length c10, .int .i64 (unLo d2), .int .i64 (unHi d2), .slice A6 s6.length c6], .int .i64 0]) (by simp [results, Tryz.results25, go_sem, z0, z1, z2, z3]) rfl ?_
        exact ddec_ok hyes.out (by rw [hd1.out]; exact hs.out) (by rw [hd2.out]) (by rw [hd2.out]) rfl (by rw [hd0.out]; exact ks0.out) ks6.out kb.out
end
section
open Go Go.RowKit
set_option linter.unusedVariables false
set_option linter.unusedSimpArgs false
attribute [local go_sem ↓] Go.wp_at_zero Go.wp_at_succ
theorem box2_cells {W : World} {g : Nat} {T : TypeId} {a b : Value} (h : Box W g T [a, b]) : W.cell? ⟨g, 0, none⟩ = some a ∧ W.cell? ⟨g, 1, none⟩ = some b ∧ W.frozen? ⟨g, 0, none⟩ = false ∧ W.frozen? ⟨g, 1, none⟩ = false := ⟨h.cell 0, h.cell 1, h.frozen 0, h.frozen 1⟩
theorem unpad_len {b s : Bs} (h : unpadG b = some s) : s.length ≤ b.length := by
  unfold unpadG at h
  split at h
  · cases h
  · split at h
    · cases h
      simp
      omega
    · cases h
theorem delS_len (c : Bs) : (delS c).length ≤ c.length := by
  unfold delS
  split
  · cases hu : unpadG (datN c 1) with
    | none => simp
    | some s => exact Nat.le_trans (unpad_len hu) (datN_len c 1)
  · simp
/-- What the region behind the delegation's check leaves: the span's block, the error. -/
def V16 (w6 : World) (lo hi C : Int) (v16 v9 : Value) (W : World) : Prop :=
  ∃ g, v16 = .pointer (some ⟨g, 0, none⟩) ∧ v9 = .int .i64 C ∧ Box W g 40 [.int .i64 lo, .int .i64 hi] ∧ w6.heap.size ≤ g ∧ Below w6.heap.size w6 W
theorem v16_new (w6 w7 : World) (lo hi C : Int) (hb : Below w6.heap.size w6 w7) : V16 w6 lo hi C (.pointer (some ⟨w7.heap.size, 0, none⟩)) (.int .i64 C) (w7.alloc (.cells #[.int .i64 lo, .int .i64 hi] 40)) :=
  ⟨_, rfl, rfl, Box.new w7 40 [.int .i64 lo, .int .i64 hi], hb.size, bgo hb (balloc _ _)⟩
theorem v16_set (w6 w7 : World) (lo hi C : Int) (g : Nat) (bz : Box w7 g 40 [.int .i64 0, .int .i64 0]) (hg : w6.heap.size ≤ g) (hb : Below w6.heap.size w6 w7) : V16 w6 lo hi C (.pointer (some ⟨g, 0, none⟩)) (.int .i64 C) ((w7.setCell ⟨g, 0, none⟩ (.int .i64 lo)).setCell ⟨g, 1, none⟩ (.int .i64 hi)) :=
  ⟨g, rfl, rfl, box_set2 bz _ _, hg, below_set2 hb hg _ _⟩
set_option maxRecDepth 100000 in
set_option maxHeartbeats 8000000 in
theorem dverify_any (B : Nat) (u u2 u3 : Value) (l n b : Bs) (w : World) (hu : SeesB w B u l) (hu2 : SeesB w B u2 n) (hu3 : SeesB w B u3 b) (hB : B ≤ w.heap.size) (hl : b.length ≤ 1048576) :
    Calls Tryz.prog 9 #[u, u2, u3] w (DVerP l n b w) := by
  obtain ⟨A, c, rfl, -, -⟩ := hu.mk_
  obtain ⟨A2, c2, rfl, -, -⟩ := hu2.mk_
  obtain ⟨A3, c3, rfl, -, -⟩ := hu3.mk_
  have hal := balloc w (.cells #[.int .i64 0, .int .i64 0] 40)
  have h2 := Box.new w 40 [.int .i64 0, .int .i64 0]
  change Box (w.alloc (.cells #[.int .i64 0, .int .i64 0] 40)) _ _ _ at h2
  have su := Lib.hid (seesB_of hu hB hal)
  have sn := Lib.hid (seesB_of hu2 hB hal)
  have hdec := decode_any _ _ b _ (seesB_of hu3 hB hal) (Nat.le_refl _) hl
  unfold DecP at hdec
  replace hdec := Lib.hid hdec
  replace hal := Lib.hid hal
  have hd9 := Lib.hid (fun k => Nat.le_trans (datN_len b k) hl)
  clear hu hu2 hu3 hl
  go_enter Tryz.func9, Tryz.ntmps9
  go_upto_region 1 with (fail)
  generalize w.alloc (.cells #[.int .i64 0, .int .i64 0] 40) = W0 at *
  generalize hgg : w.heap.size = g2 at h2 ⊢
  have hg2 : Hid (w.heap.size ≤ g2) := by show _ ≤ _; omega
  replace hgg := Lib.hid hgg
  go_wp2_with fail
  refine hdec.out.mono ?_
  rintro e w1 ⟨v1, rfl, s1, hb1⟩
  replace h2 := h2.below hb1
  replace su := Lib.hid (seesB_of su.out (Nat.le_refl _) hb1)
  replace sn := Lib.hid (seesB_of sn.out (Nat.le_refl _) hb1)
  have hbw := Lib.hid (bgo hal.out hb1)
  obtain ⟨A1, c1, rfl, -, -⟩ := s1.mk_
  clear hdec hal hb1
  dsimp only
  by_cases E0 : decC b = 0
  rotate_left
  · have hC : Hid (dverC l n b = decC b) := by show _ = _; rw [dverC, if_neg E0]
    have hE : (decC b == 0) = false := by simp [E0]
    generalize decC b = E at *
    replace E0 := Lib.hid E0
    clear s1
    obtain ⟨y0, y1, f0, f1⟩ := box2_cells h2
    go_wp2_with fail
    have k := box_set2 h2 (.int .i64 0) (.int .i64 0)
    have kb := Lib.hid (below_set2 hbw.out hg2.out (.int .i64 0) (.int .i64 0))
    clear y0 y1 f0 f1 h2
    generalize (w1.setCell ⟨g2, 0, none⟩ (.int .i64 0)).setCell ⟨g2, 1, none⟩ (.int .i64 0) = W9 at *
    obtain ⟨z0, z1⟩ := boxT2 k
    refine bodyPost_ret (v := .tuple #[.agg #[.int .i64 0, .int .i64 0], .int .i64 E]) (by simp [results, Tryz.results9, go_sem, z0, z1]) rfl ?_
    exact dver_bad hC.out E0.out rfl kb.out
  rw [E0]
  replace E0 := Lib.hid E0
  go_wp2_with fail
  refine (dnames_any w1).mono ?_
  rintro e w2 ⟨v2, v2', rfl, -, s2, hb2⟩
  obtain ⟨A6, c6, rfl, -, -⟩ := s2.mk_
  have hpt := parts2_any w2.heap.size w2.heap.size _ _ (decT b) namesA w2 ((s1.below hb2).more hb2.size) s2 (Nat.le_refl _) (Nat.le_refl _) (Nat.le_trans (decT_len b) (by omega))
  unfold PartsP at hpt
  replace h2 := h2.below hb2
  replace su := Lib.hid (seesB_of su.out (Nat.le_refl _) hb2)
  replace sn := Lib.hid (seesB_of sn.out (Nat.le_refl _) hb2)
  replace hbw := Lib.hid (bgo hbw.out hb2)
  replace hpt := Lib.hid hpt
  clear s1 s2 hb2
  dsimp only
  go_wp2_with fail
  refine hpt.out.mono ?_
  rintro e w3 hP
  rcases hP with ⟨hnm, v3, rfl, ho, hb3⟩ | ⟨hnm, rfl, hb3⟩
  rotate_left
  · have hC : Hid (dverC l n b = 3) := by show _ = _; rw [dverC, if_pos E0.out, decide_eq_false hnm]; rfl
    replace h2 := h2.below hb3
    replace hbw := Lib.hid (bgo hbw.out hb3)
    clear hpt hb3
    dsimp only
    obtain ⟨y0, y1, f0, f1⟩ := box2_cells h2
    go_wp2_with fail
    have k := box_set2 h2 (.int .i64 0) (.int .i64 0)
    have kb := Lib.hid (below_set2 hbw.out hg2.out (.int .i64 0) (.int .i64 0))
    clear y0 y1 f0 f1 h2
    generalize (w3.setCell ⟨g2, 0, none⟩ (.int .i64 0)).setCell ⟨g2, 1, none⟩ (.int .i64 0) = W9 at *
    obtain ⟨z0, z1⟩ := boxT2 k
    refine bodyPost_ret (v := .tuple #[.agg #[.int .i64 0, .int .i64 0], .int .i64 3]) (by simp [results, Tryz.results9, go_sem, z0, z1]) rfl ?_
    exact dver_bad hC.out (by decide) rfl kb.out
  have hC1 : Hid (dverC l n b = dver1C l n (datN b 0) (datN b 1)) := by show _ = _; rw [dverC, if_pos E0.out, decide_eq_true hnm, if_pos rfl]
  replace h2 := h2.below hb3
  replace su := Lib.hid (seesB_of su.out (Nat.le_refl _) hb3)
  replace sn := Lib.hid (seesB_of sn.out (Nat.le_refl _) hb3)
  replace hbw := Lib.hid (bgo hbw.out hb3)
  have hL2 : ((decT b).map (·.2)).length = 2 := by
    have := congrArg List.length hnm
    simpa [namesA] using this
  have hsl := ho.sees
  obtain ⟨A7, c7, rfl, -, -⟩ := hsl.mk_
  obtain ⟨b6, o6, rfl, hb6, hcell⟩ := hsl.at_ (by omega)
  obtain ⟨A10, c10, t0, -, -, sd0⟩ := hcell 0 (by omega)
  obtain ⟨A11, c11, t1, -, -, sd1⟩ := hcell 1 (by omega)
  rw [dat_get b 0] at t0 sd0
  rw [dat_get b 1] at t1 sd1
  replace t0 : w3.cell? ⟨b6, o6, none⟩ = some (.slice A10 (datN b 0).length c10) := t0
  rw [hL2]
  have ha0l := Lib.hid (hd9.out 0)
  have ha1l := hd9.out 1
  have hle : Hid (dverC l n b = 0 → dverC l n b = 0) := fun h => h
  generalize hda0 : datN b 0 = a0 at *
  generalize hda1 : datN b 1 = a1 at *
  have hSl := Lib.hid (Nat.le_trans (delS_len a1) ha1l)
  have hdd := ddecode_any w3.heap.size _ a1 w3 sd1 (Nat.le_refl _) ha1l
  unfold DDecP at hdd
  unfold dver1C at hC1
  generalize hdP : delP a1 = P at *
  generalize hdS : delS a1 = S at *
  generalize delLo a1 = f at *
  generalize delHi a1 = t at *
  generalize delC a1 = C at *
  have K3 : Hid (∀ W, Below w3.heap.size w3 W → W.cell? ⟨b6, o6, none⟩ = some (.slice A10 a0.length c10)) := fun W hW => (hW.cell (p := ⟨b6, o6, none⟩) hb6).trans t0
  replace sd0 := Lib.hid sd0
  replace hda0 := Lib.hid hda0
  replace hda1 := Lib.hid hda1
  replace hdP := Lib.hid hdP
  replace hdS := Lib.hid hdS
  replace hnm := Lib.hid hnm
  replace hdd := Lib.hid hdd
  replace ha1l := Lib.hid ha1l
  clear hcell hsl ho hpt hb3 sd1 t0 hL2 hd9
  dsimp only
  go_wp2_with fail
  refine hdd.out.mono ?_
  rintro e w4 ⟨v4, v5, rfl, s4, s5, hb4⟩
  obtain ⟨A4, c4, rfl, -, -⟩ := s4.mk_
  obtain ⟨A5, c5, rfl, -, -⟩ := s5.mk_
  have hal4 := balloc w4 (.cells #[.slice A4 P.length c4, .int .i64 f, .int .i64 t, .slice A5 S.length c5] 27)
  have x14 := Box.new w4 27 [.slice A4 P.length c4, .int .i64 f, .int .i64 t, .slice A5 S.length c5]
  change Box (w4.alloc (.cells #[.slice A4 P.length c4, .int .i64 f, .int .i64 t, .slice A5 S.length c5] 27)) _ _ _ at x14
  have hb34 := bgo hb4 hal4
  replace h2 := h2.below hb34
  replace su := Lib.hid (seesB_of su.out (Nat.le_refl _) hb34)
  replace sn := Lib.hid (seesB_of sn.out (Nat.le_refl _) hb34)
  replace sd0 := Lib.hid (seesB_of sd0.out (Nat.le_refl _) hb34)
  replace hbw := Lib.hid (bgo hbw.out hb34)
  have K4 : Hid (∀ W, Below (w4.alloc (.cells #[.slice A4 P.length c4, .int .i64 f, .int .i64 t, .slice A5 S.length c5] 27)).heap.size (w4.alloc (.cells #[.slice A4 P.length c4, .int .i64 f, .int .i64 t, .slice A5 S.length c5] 27)) W → W.cell? ⟨b6, o6, none⟩ = some (.slice A10 a0.length c10)) := fun W hW => K3.out W (bgo hb34 hW)
  replace s4 := Lib.hid (seesB_of s4 (Nat.le_refl _) hal4)
  replace s5 := Lib.hid (seesB_of s5 (Nat.le_refl _) hal4)
  clear hb4 hal4 hb34 K3 hdd t1
  dsimp only
  go_upto_region 9 with (fail)
  generalize w4.alloc (.cells #[.slice A4 P.length c4, .int .i64 f, .int .i64 t, .slice A5 S.length c5] 27) = W4 at *
  generalize w4.heap.size = g14 at *
  by_cases E4 : C = 0
  rotate_left
  · have hC : Hid (dverC l n b = C) := by show _ = _; rw [hC1.out, if_neg E4]
    have hE : (C == 0) = false := by simp [E4]
    replace E4 := Lib.hid E4
    clear x14
    obtain ⟨y0, y1, f0, f1⟩ := box2_cells h2
    go_wp2_with fail
    have k := box_set2 h2 (.int .i64 0) (.int .i64 0)
    have kb := Lib.hid (below_set2 hbw.out hg2.out (.int .i64 0) (.int .i64 0))
    clear y0 y1 f0 f1 h2
    generalize (W4.setCell ⟨g2, 0, none⟩ (.int .i64 0)).setCell ⟨g2, 1, none⟩ (.int .i64 0) = W9 at *
    obtain ⟨z0, z1⟩ := boxT2 k
    refine bodyPost_ret (v := .tuple #[.agg #[.int .i64 0, .int .i64 0], .int .i64 C]) (by simp [results, Tryz.results9, go_sem, z0, z1]) rfl ?_
    exact dver_bad hC.out E4.out rfl kb.out
  subst E4
  rw [if_pos rfl] at hC1
  obtain ⟨q0, q1, q2, q3, -, -, -, -⟩ := box4_cells x14
  have hck := dcheck_any W4.heap.size _ _ _ l P S f t W4 su.out s4.out s5.out (Nat.le_refl _) hSl.out
  unfold DChkP at hck
  generalize dcheckC l P f t S = D at *
  replace hck := Lib.hid hck
  go_wp2_with fail
  refine hck.out.mono ?_
  rintro e w5 ⟨rfl, hb5⟩
  replace h2 := h2.below hb5
  replace x14 := x14.below hb5
  replace sn := Lib.hid (seesB_of sn.out (Nat.le_refl _) hb5)
  replace s4 := Lib.hid (seesB_of s4.out (Nat.le_refl _) hb5)
  replace sd0 := Lib.hid (seesB_of sd0.out (Nat.le_refl _) hb5)
  replace hbw := Lib.hid (bgo hbw.out hb5)
  have K5 : Hid (∀ W, Below w5.heap.size w5 W → W.cell? ⟨b6, o6, none⟩ = some (.slice A10 a0.length c10)) := fun W hW => K4.out W (bgo hb5 hW)
  clear q0 q1 q2 q3 hck hb5 K4 su s5
  dsimp only
  by_cases E5 : D = 0
  rotate_left
  · have hC : Hid (dverC l n b = D) := by show _ = _; rw [hC1.out, if_neg E5]
    have hE : (D == 0) = false := by simp [E5]
    replace E5 := Lib.hid E5
    clear x14
    obtain ⟨y0, y1, f0, f1⟩ := box2_cells h2
    go_wp2_with fail
    have k := box_set2 h2 (.int .i64 0) (.int .i64 0)
    have kb := Lib.hid (below_set2 hbw.out hg2.out (.int .i64 0) (.int .i64 0))
    clear y0 y1 f0 f1 h2
    generalize (w5.setCell ⟨g2, 0, none⟩ (.int .i64 0)).setCell ⟨g2, 1, none⟩ (.int .i64 0) = W9 at *
    obtain ⟨z0, z1⟩ := boxT2 k
    refine bodyPost_ret (v := .tuple #[.agg #[.int .i64 0, .int .i64 0], .int .i64 D]) (by simp [results, Tryz.results9, go_sem, z0, z1]) rfl ?_
    exact dver_bad hC.out E5.out rfl kb.out
  subst E5
  rw [if_pos rfl] at hC1
  unfold dver2C at hC1
  have hvA := fun (W : World) (hW : Below w5.heap.size w5 W) => bverify_any W.heap.size _ _ _ P n a0 W (seesB_of s4.out (Nat.le_refl _) hW) (seesB_of sn.out (Nat.le_refl _) hW) (seesB_of sd0.out (Nat.le_refl _) hW) (Nat.le_refl _) ha0l.out
  unfold BVerP at hvA
  generalize hdlo : bverLo P n a0 = lo at *
  generalize hdhi : bverHi P n a0 = hi at *
  generalize bverC P n a0 = E2 at *
  replace hdlo := Lib.hid hdlo
  replace hdhi := Lib.hid hdhi
  replace hC1 := Lib.hid hC1
  have hv1 := Lib.hid (hvA w5.drew (bdrew w5))
  have hv2 := Lib.hid (hvA (w5.alloc (.cells #[.int .i64 0, .int .i64 0] 40)).drew (bgo (balloc w5 _) (bdrew _)))
  have hv3 := Lib.hid (hvA w5 (Below.refl _ _))
  have hv4 := Lib.hid (hvA (w5.alloc (.cells #[.int .i64 0, .int .i64 0] 40)) (balloc w5 _))
  have K : Hid (∀ W, Below w5.heap.size w5 W → W.cell? ⟨g14, 0, none⟩ = some (.slice A4 P.length c4) ∧ W.cell? ⟨b6, o6, none⟩ = some (.slice A10 a0.length c10)) := fun W hW => ⟨(x14.below hW).cell 0, K5.out W hW⟩
  obtain ⟨k0, k1⟩ := K.out w5 (Below.refl _ _)
  clear hvA K5 sn s4 sd0
  go_wp2_with fail
  go_cut [16, 9] (fun v16 v9 W => V16 w5 lo hi E2 v16 v9 W)
  case first =>
    clear h2 x14
    go_region_held3 (fun W' : World => W'.cell? ⟨g14, 0, none⟩ = some (.slice A4 P.length c4) ∧ W'.cell? ⟨b6, o6, none⟩ = some (.slice A10 a0.length c10))
      (first | (with_reducible exact K.out _ hb7) | (with_reducible exact K.out _ (below_set2 hb7 (Nat.le_refl _) _ _)) | exact K.out _ (by (repeat (first | exact Below.refl _ _ | (refine bgo ?_ (balloc _ _)) | (refine bgo ?_ (bdrew _)) | (refine bgo ?_ (by assumption))))) | (go_keep; done))
      (first
        | (go_at_call 27; (with_reducible refine hv1.out.mono ?_); rintro e w7 ⟨rfl, hb7⟩
           replace hb7 := bgo (bdrew w5) hb7)
        | (go_at_call 27; (with_reducible refine hv2.out.mono ?_); rintro e w7 ⟨rfl, hb7⟩
           have bz := ((Box.new w5 40 [.int .i64 0, .int .i64 0]).below (bdrew _)).below hb7
           replace hb7 := bgo (bgo (balloc w5 _) (bdrew _)) hb7
           obtain ⟨e0, e1, j0, j1⟩ := box2_cells bz)
        | (go_at_call 27; (with_reducible refine hv3.out.mono ?_); rintro e w7 ⟨rfl, hb7⟩)
        | (go_at_call 27; (with_reducible refine hv4.out.mono ?_); rintro e w7 ⟨rfl, hb7⟩
           have bz := (Box.new w5 40 [.int .i64 0, .int .i64 0]).below hb7
           replace hb7 := bgo (balloc w5 _) hb7
           obtain ⟨e0, e1, j0, j1⟩ := box2_cells bz))
    all_goals
      go_wp2_with fail
      go_meet
      first
        | (with_reducible exact v16_new w5 w7 _ _ _ hb7)
        | (with_reducible exact v16_set w5 w7 _ _ _ _ bz (Nat.le_refl _) hb7)
  case rest =>
    obtain ⟨g16, rfl, rfl, x16, hg16, hb7⟩ := hcut
    obtain ⟨w7, rfl⟩ : ∃ w7 : World, w7 = wc := ⟨_, rfl⟩
    replace h2 := h2.below hb7
    replace x14 := x14.below hb7
    replace hbw := Lib.hid (bgo hbw.out hb7)
    clear k0 k1 K hv1 hv2 hv3 hv4 hb7 hg16
    by_cases E6 : E2 = 0
    rotate_left
    · have hC : Hid (dverC l n b = E2) := by show _ = _; rw [hC1.out, if_neg E6]
      have hE : (E2 == 0) = false := by simp [E6]
      replace E6 := Lib.hid E6
      clear x14 x16
      obtain ⟨y0, y1, f0, f1⟩ := box2_cells h2
      go_wp2_with fail
      have k := box_set2 h2 (.int .i64 0) (.int .i64 0)
      have kb := Lib.hid (below_set2 hbw.out hg2.out (.int .i64 0) (.int .i64 0))
      clear y0 y1 f0 f1 h2
      generalize (w7.setCell ⟨g2, 0, none⟩ (.int .i64 0)).setCell ⟨g2, 1, none⟩ (.int .i64 0) = W9 at *
      obtain ⟨z0, z1⟩ := boxT2 k
      refine bodyPost_ret (v := .tuple #[.agg #[.int .i64 0, .int .i64 0], .int .i64 E2]) (by simp [results, Tryz.results9, go_sem, z0, z1]) rfl ?_
      exact dver_bad hC.out E6.out rfl kb.out
    subst E6
    replace hC1 : Hid (dverC l n b = if inS lo hi f t = true then 0 else 25) := by show _ = _; rw [hC1.out, if_pos rfl]
    have hwn := Lib.hid (fun W => dwindow_any A4 P.length c4 A5 S.length c5 f t W)
    have hin := Lib.hid (fun W => inside_any lo hi f t W)
    have K : Hid (∀ W, Below w7.heap.size w7 W → W.cell? ⟨g14, 0, none⟩ = some (.slice A4 P.length c4) ∧ W.cell? ⟨g14, 1, none⟩ = some (.int .i64 f) ∧ W.cell? ⟨g14, 2, none⟩ = some (.int .i64 t) ∧ W.cell? ⟨g14, 3, none⟩ = some (.slice A5 S.length c5) ∧ W.cell? ⟨g16, 0, none⟩ = some (.int .i64 lo) ∧ W.cell? ⟨g16, 1, none⟩ = some (.int .i64 hi)) := fun W hW => ⟨(x14.below hW).cell 0, (x14.below hW).cell 1, (x14.below hW).cell 2, (x14.below hW).cell 3, (x16.below hW).cell 0, (x16.below hW).cell 1⟩
    obtain ⟨k0, k1, k2, k3, k4, k5⟩ := K.out w7 (Below.refl _ _)
    generalize hI : inS lo hi f t = I at *
    replace hI := Lib.hid hI
    go_wp2_with fail
    go_cut [72] (fun v W => v = .bool (!I) ∧ Hid (Below w7.heap.size w7 W))
    case first =>
      clear h2 x14 x16
      go_region_held3 (fun W' : World => W'.cell? ⟨g14, 0, none⟩ = some (.slice A4 P.length c4) ∧ W'.cell? ⟨g14, 1, none⟩ = some (.int .i64 f) ∧ W'.cell? ⟨g14, 2, none⟩ = some (.int .i64 t) ∧ W'.cell? ⟨g14, 3, none⟩ = some (.slice A5 S.length c5) ∧ W'.cell? ⟨g16, 0, none⟩ = some (.int .i64 lo) ∧ W'.cell? ⟨g16, 1, none⟩ = some (.int .i64 hi))
        (first | (with_reducible exact K.out _ hb9) | (with_reducible exact K.out _ hb8) | exact K.out _ (by (repeat (first | exact Below.refl _ _ | (refine bgo ?_ (balloc _ _)) | (refine bgo ?_ (bdrew _)) | (refine bgo ?_ (by assumption))))) | (go_keep; done))
        (first
          | (go_at_call 18; (with_reducible refine (hin.out w8).mono ?_); rintro e w9 ⟨rfl, hb9⟩
             replace hb9 := bgo hb8 hb9)
          | (go_at_call 19; (with_reducible refine (hwn.out w7.drew).mono ?_); rintro e w8 ⟨rfl, hb8⟩
             replace hb8 := bgo (bdrew w7) hb8)
          | (go_at_call 19; (with_reducible refine (hwn.out w7).mono ?_); rintro e w8 ⟨rfl, hb8⟩))
      all_goals
        go_wp2_with fail
        go_meet
        exact ⟨rfl, hb9⟩
    case rest =>
      obtain ⟨rfl, hb9⟩ := hcut
      obtain ⟨w9, rfl⟩ : ∃ w9 : World, w9 = wc := ⟨_, rfl⟩
      replace h2 := h2.below hb9.out
      replace x16 := x16.below hb9.out
      replace hbw := Lib.hid (bgo hbw.out hb9.out)
      clear k0 k1 k2 k3 k4 k5 K hwn hin hb9 x14
      cases I with
      | false =>
        have hC : Hid (dverC l n b = 25) := by show _ = _; rw [hC1.out]; rfl
        clear x16
        obtain ⟨y0, y1, f0, f1⟩ := box2_cells h2
        go_wp2_with fail
        have k := box_set2 h2 (.int .i64 0) (.int .i64 0)
        have kb := Lib.hid (below_set2 hbw.out hg2.out (.int .i64 0) (.int .i64 0))
        clear y0 y1 f0 f1 h2
        generalize (w9.setCell ⟨g2, 0, none⟩ (.int .i64 0)).setCell ⟨g2, 1, none⟩ (.int .i64 0) = W9 at *
        obtain ⟨z0, z1⟩ := boxT2 k
        refine bodyPost_ret (v := .tuple #[.agg #[.int .i64 0, .int .i64 0], .int .i64 25]) (by simp [results, Tryz.results9, go_sem, z0, z1]) rfl ?_
        exact dver_bad hC.out (by decide) rfl kb.out
      | true =>
        have hC : Hid (dverC l n b = 0) := by show _ = _; rw [hC1.out]; rfl
        obtain ⟨m0, m1, -, -⟩ := box2_cells x16
        obtain ⟨y0, y1, f0, f1⟩ := box2_cells h2
        go_wp2_with fail
        have k := box_set2 h2 (.int .i64 lo) (.int .i64 hi)
        have kb := Lib.hid (below_set2 hbw.out hg2.out (.int .i64 lo) (.int .i64 hi))
        clear y0 y1 f0 f1 h2
        generalize (w9.setCell ⟨g2, 0, none⟩ (.int .i64 lo)).setCell ⟨g2, 1, none⟩ (.int .i64 hi) = W9 at *
        obtain ⟨z0, z1⟩ := boxT2 k
        refine bodyPost_ret (v := .tuple #[.agg #[.int .i64 lo, .int .i64 hi], .int .i64 0]) (by simp [results, Tryz.results9, go_sem, z0, z1]) rfl ?_
        exact dver_ok hC.out (by rw [hda1.out, hda0.out, hdP.out]; exact hdlo.out) (by rw [hda1.out, hda0.out, hdP.out]; exact hdhi.out) rfl kb.out
end
section
open Go Go.RowKit
set_option linter.unusedVariables false
set_option linter.unusedSimpArgs false
attribute [local go_sem ↓] Go.wp_at_zero Go.wp_at_succ
def KeyPostF (seed : Bs) (h : Int) (w : World) (e : Ending) (w' : World) : Prop :=
  ∃ v, e = .returned (.tuple #[v, .int .i64 (pubC seed h)]) ∧ SeesB w' w'.heap.size v (pubG seed h) ∧ From w.heap.size v ∧ Below w.heap.size w w'
set_option maxRecDepth 100000 in
theorem rpublicF_any (B : Nat) (u : Value) (seed : Bs) (h : Int) (w : World) (hu : SeesB w B u seed) (hB : B ≤ w.heap.size) (hl : seed.length = 32) (hh : 0 ≤ h ∧ h ≤ 6) :
    Calls Tryz.prog 12 #[u, .int .i64 h] w (KeyPostF seed h w) := by
  obtain ⟨h0, h1⟩ := hh
  obtain ⟨k, rfl⟩ := Int.eq_ofNat_of_zero_le h0
  have hc := rleaves_any B u seed k w hu hB hl (by omega)
  have hv : Hid (pubC seed k = 0) := by show _ = _; simp [pubC, hl]; omega
  have hv2 : Hid (pubG seed k = keyG seed k) := by show _ = _; simp [pubG, hl]; omega
  have j0 : decide ((k : Int) < 0) = false := by simp
  have j1 : ¬ ((6 : Int) < (k : Int)) := by omega
  replace hc : Hid (Calls _ _ _ _ (GivesL (leavesL seed (2 ^ k)) w)) := hc
  have hlen := leavesL_len seed (2 ^ k)
  have hp := pow_le64 k (by omega)
  have hel := Lib.hid (leavesL_el seed (2 ^ k))
  obtain ⟨A, c, rfl, -, -⟩ := hu.mk_
  rw [hl] at hc ⊢
  clear hu hl
  rw [← key_root] at hv2
  generalize leavesL seed (2 ^ k) = ls at *
  go_enter Tryz.func12, Tryz.ntmps12
  go_wp2_with fail
  refine hc.out.mono ?_
  rintro e w1 ⟨v, rfl, k1, hb1⟩
  dsimp only
  go_wp2_with fail
  refine (rroot_top ls _ _ _ k1.sees (Nat.le_refl _) (by omega) (fun l hx => by have := hel.out l hx; omega)).mono ?_
  rintro e w2 ⟨v2, rfl, h2, hb2⟩
  dsimp only
  go_wp2_with fail
  go_returns
  exact ⟨v2, by rw [hv.out]; rfl, by rw [hv2.out]; exact h2.sees, h2.from.mono hb1.size, bgo hb1 hb2⟩
end
section
open Go Go.RowKit
set_option linter.unusedVariables false
set_option linter.unusedSimpArgs false
attribute [local go_sem ↓] Go.wp_at_zero Go.wp_at_succ
def KSignWP (v ht : Int) (w : World) (e : Ending) (w' : World) : Prop :=
  ∃ v1 v2 sd pk, e = .returned (.tuple #[.agg #[v1, .int .i64 (ht % 2), .int .i64 0], v2]) ∧ SeesB w' w'.heap.size v1 sd ∧ From w.heap.size v1 ∧ sd = randK (wrap64 (v + 100)) 32 ∧ sd.length = 32 ∧ SeesB w' w'.heap.size v2 pk ∧ pk = pubG sd (ht % 2) ∧ pk.length = 32 ∧ From w.heap.size v2 ∧ Below w.heap.size w w'
set_option maxRecDepth 100000 in
set_option maxHeartbeats 1000000 in
theorem ksignerW_any (v ht : Int) (w : World) : Calls Tryz.prog 6 #[.int .i64 v, .int .i64 ht] w (KSignWP v ht w) := by
  have hkr := fun x W => (show Calls Tryz.prog 7 #[.int .i64 x, .int .i64 32] W (Shows (randK x 32) W) from krandom_any x 32 (by omega) W)
  have hwi := fun W => kwithin_any ht 2 (by omega) (by omega) W
  have b1 := balloc w (.cells #[.slice none 0 0, .int .i64 0, .int .i64 0] 25)
  have h4 := Box.new w 25 [.slice none 0 0, .int .i64 0, .int .i64 0]
  have hm0 := Int.emod_nonneg ht (show (2 : Int) ≠ 0 by omega)
  have hm1 := Int.emod_lt_of_pos ht (show (0 : Int) < 2 by omega)
  replace hkr := Lib.hid hkr
  replace hwi := Lib.hid hwi
  replace b1 := Lib.hid b1
  have hm0' := Lib.hid hm0
  have hm1' := Lib.hid hm1
  clear hm0 hm1
  go_enter Tryz.func6, Tryz.ntmps6
  go_wp2_with fail
  change Box (w.alloc (.cells #[.slice none 0 0, .int .i64 0, .int .i64 0] 25)) _ _ _ at h4
  generalize w.alloc (.cells #[.slice none 0 0, .int .i64 0, .int .i64 0] 25) = W1 at *
  generalize hg : w.heap.size = g4 at h4 ⊢
  replace hg := Lib.hid hg
  refine (hkr.out _ _).mono ?_
  rintro e w2 ⟨v2, rfl, t2, hb2, ft2⟩
  have hl := randK_len (wrap64 (v + 100)) 32 (by omega)
  obtain ⟨A2, c2, rfl, -, -⟩ := t2.mk_
  have fs := Lib.hid (ft2.mono b1.out.size)
  clear ft2
  replace h4 := Lib.hid (h4.below hb2)
  replace b1 := Lib.hid (bgo b1.out hb2)
  replace hl := Lib.hid hl
  generalize hSD : randK (wrap64 (v + 100)) 32 = sd at *
  replace hSD := Lib.hid hSD
  dsimp only
  go_wp2_with fail
  refine (hwi.out _).mono ?_
  rintro e w3 ⟨rfl, rfl⟩
  generalize hH : ht % 2 = H at *
  replace hH := Lib.hid hH
  dsimp only
  have hal := balloc w3 (.cells #[.slice A2 sd.length c2, .int .i64 H, .int .i64 0] 25)
  have h6 := Box.new w3 25 [.slice A2 sd.length c2, .int .i64 H, .int .i64 0]
  change Box (w3.alloc (.cells #[.slice A2 sd.length c2, .int .i64 H, .int .i64 0] 25)) _ _ _ at h6
  go_upto_region 2 with (fail)
  have t6 := seesB_of t2 (Nat.le_refl _) hal
  replace h4 := Lib.hid (h4.out.below hal)
  replace b1 := Lib.hid (bgo b1.out hal)
  generalize w3.alloc (.cells #[.slice A2 sd.length c2, .int .i64 H, .int .i64 0] 25) = W6 at *
  generalize w3.heap.size = g6 at *
  have c0 := h6.cell 0
  have c1 := h6.cell 1
  simp only [List.getElem?_cons_zero, List.getElem?_cons_succ] at c0 c1
  have hpu := Lib.hid (rpublicF_any W6.heap.size _ sd H W6 t6 (Nat.le_refl _) hl.out ⟨hm0'.out, by have := hm1'.out; omega⟩)
  clear t2 hal hkr hwi
  go_wp2_with fail
  refine hpu.out.mono ?_
  rintro e w7 ⟨vp, rfl, tp, fp, hb7⟩
  obtain ⟨Ap, cp, rfl, -, -⟩ := tp.mk_
  have fw := Lib.hid (fp.mono b1.out.size)
  clear fp
  have h67 := h6.below hb7
  have h47 := h4.out.below hb7
  have t7 := seesB_of t6 (Nat.le_refl _) hb7
  have b7 := Lib.hid (bgo b1.out hb7)
  have hlp : Hid ((pubG sd H).length = 32) := by
    show _ = _
    have hl' : sd.length = 32 := hl.out
    rw [pubG, if_pos (by have := hm0'.out; have := hm1'.out; omega)]
    exact keyG_len _ _
  have hl' : Hid (sd.length = 32) := hl.out
  have hpg : Hid (pubG sd H = pubG sd H) := rfl
  generalize hpk : pubG sd H = pk at tp hlp fw ⊢
  replace hpk := Lib.hid hpk
  have d0 := h67.cell 0
  have d1 := h67.cell 1
  have d2 := h67.cell 2
  have y0 := h47.cell 0
  have y1 := h47.cell 1
  have y2 := h47.cell 2
  simp only [List.getElem?_cons_zero, List.getElem?_cons_succ] at d0 d1 d2 y0 y1 y2
  have f0 := h47.frozen 0
  have f1 := h47.frozen 1
  have f2 := h47.frozen 2
  have n47 := noBL3' (NoB.s none 0 0) (NoB.i 0) (NoB.i 0)
  have hgr := ggo (ggo (setCell_grown w7 g4 0 (.slice A2 sd.length c2)) (setCell_grown _ g4 1 (.int .i64 H))) (setCell_grown _ g4 2 (.int .i64 0))
  have hz : (((w7.setCell ⟨g4, 0, none⟩ (.slice A2 sd.length c2)).setCell ⟨g4, 1, none⟩ (.int .i64 H)).setCell ⟨g4, 2, none⟩ (.int .i64 0)).heap.size = w7.heap.size := by simp [World.setCell]
  have kt := t7.over (Nat.le_refl _) h47 n47 hgr
  have kp := tp.over (Nat.le_refl _) h47 n47 hgr
  have k4 := ((h47.set 0 (.slice A2 sd.length c2)).set 1 (.int .i64 H)).set 2 (.int .i64 0)
  simp only [List.set_cons_zero, List.set_cons_succ] at k4
  rw [← hz] at kt kp
  replace kt := Lib.hid kt
  replace kp := Lib.hid kp
  replace k4 := Lib.hid k4
  have kb := Lib.hid (below_set3 b7.out (Nat.le_of_eq hg.out) (.slice A2 sd.length c2) (.int .i64 H) (.int .i64 0))
  clear hl hgr hz h47 h67 h6 h4 tp t7 t6 c0 c1 b1 hpu
  dsimp only
  go_wp2_with fail
  clear d0 d1 d2 y0 y1 y2 f0 f1 f2
  generalize ((w7.setCell ⟨g4, 0, none⟩ (.slice A2 sd.length c2)).setCell ⟨g4, 1, none⟩ (.int .i64 H)).setCell ⟨g4, 2, none⟩ (.int .i64 0) = W9 at *
  have z0 : W9.cell? ⟨g4, 0, none⟩ = some (.slice A2 sd.length c2) := k4.out.cell 0
  have z1 : W9.cell? ⟨g4, 1, none⟩ = some (.int .i64 H) := k4.out.cell 1
  have z2 : W9.cell? ⟨g4, 2, none⟩ = some (.int .i64 0) := k4.out.cell 2
  refine bodyPost_ret (v := .tuple #[.agg #[.slice A2 sd.length c2, .int .i64 H, .int .i64 0], .slice Ap pk.length cp]) (by simp [results, Tryz.results6, go_sem, z0, z1, z2]) rfl ?_
  exact ⟨_, _, sd, pk, by rw [hH.out], kt.out, fs.out, hSD.out.symm, hl'.out, kp.out, by rw [hH.out]; exact hpk.out.symm, hlp.out, fw.out, kb.out⟩
end
section
open Go Go.RowKit
set_option linter.unusedVariables false
theorem encT_le (ts : List (Bs × Bs)) : (encT ts).length ≤ 8 * ts.length + (dataT ts).length := by
  by_cases h : encC ts = 0
  · have he : encT ts = bodyT ts := by rw [encT, if_pos h]
    rw [he]
    unfold encC at h
    split at h
    · omega
    split at h
    · rename_i g1 g2
      have h4 := checkT_ok ts [] g2
      have hb := body_len ts h4 (by omega)
      omega
    · rename_i g2
      exact absurd h g2
  · rw [encT, if_neg h]; simp
theorem part_le (ns : List Bs) (lo hi : Int) : (partG ns lo hi).length ≤ 64 := by
  have h := encT_le (rootTags ns lo hi)
  have h1 : (rootG (ns.map leafH)).length = 32 := rootG_len _ (leafs_len ns)
  have h2 := pb16 lo hi
  simp only [rootTags, dataT, List.map_cons, List.map_nil, List.flatten_cons, List.flatten_nil, List.length_append, List.length_cons, List.length_nil] at h
  unfold partG rootTags
  omega
theorem ans_le (ns : List Bs) (S part : Bs) (i : Nat) (hS : S.length ≤ 757) (hp : part.length ≤ 64) : (ansB ns S part i).length ≤ 872 + 32 * ns.length := by
  have h := encT_le (ansTags i ns.length (pathG (ns.map leafH) i).flatten S part)
  obtain ⟨p1, p2, p3⟩ := pathF_len ns i
  have h1 := pad4_len S
  have h2 := putB_len 4 i
  have h3 := putB_len 4 ns.length
  simp only [ansTags, dataT, List.map_cons, List.map_nil, List.flatten_cons, List.flatten_nil, List.length_append, List.length_cons, List.length_nil] at h
  unfold ansB ansTags
  omega
theorem denc_le (P : Bs) (f t : Int) (S : Bs) (hP : P.length = 32) (hS : S.length ≤ 757) : (dencB P f t S).length ≤ 832 := by
  by_cases hc : dencC P f t S = 0
  · rw [← (dtags_enc P f t S hc).2]
    have h := encT_le (dtags P f t S)
    have h1 := pad4_len S
    simp only [dtags, dataT, List.map_cons, List.map_nil, List.flatten_cons, List.flatten_nil, List.length_append, List.length_cons, List.length_nil, spanB_len] at h
    unfold dtags
    omega
  · rw [dencB, if_neg hc]; simp
theorem wrap_fits (a c : Bs) (ha : a.length % 4 = 0) (hc : c.length % 4 = 0) (hl : 16 + a.length + c.length ≤ 2048) : encC (wrapT a c) = 0 := by
  rcases wrap_code a c ha hc with h | h
  · exact h
  · exfalso
    unfold encC at h
    split at h
    · omega
    split at h
    · rename_i g1 g2
      split at h
      · rename_i g3
        have h4 := checkT_ok (wrapT a c) [] g2
        have hb := body_len (wrapT a c) h4 (by simp [wrapT])
        simp only [wrapT, dataT, List.map_cons, List.map_nil, List.flatten_cons, List.flatten_nil, List.length_append, List.length_cons, List.length_nil] at hb
        unfold wrapT at g3
        omega
      · omega
    · rename_i g2
      rcases Nat.lt_or_ge 0 1 with _ | _
      · have h1 : namedG nANSW = true := by decide
        have h2 : namedG nCERT = true := by decide
        have h3 : (Op.bytesLess nANSW [] || nANSW == []) = false := by decide
        have h5 : (Op.bytesLess nCERT nANSW || nCERT == nANSW) = false := by decide
        apply g2
        unfold wrapT
        rw [checkT, if_pos h1, h3, if_neg (by decide), if_pos ha, checkT, if_pos h2, h5, if_neg (by decide), if_pos hc, checkT]
      · omega
/-- What a fresh key's answers are. -/
theorem dans_first {sd P S : Bs} {h f t : Int} {ns : List Bs} {lo hi : Int} (hl : sd.length = 32) (h0 : 0 ≤ h) (h1 : h ≤ 6) (n1 : 1 ≤ ns.length) (n2 : ns.length ≤ 8) (hn : ∀ l ∈ ns, l.length = 32) (hv : vS lo hi = true) (hP : P.length = 32) (hS : fitsG S = true) (hw : vS f t = true) (hi' : inS lo hi f t = true) :
    dansR sd h 0 P f t S ns lo hi = (((sd, h, 1), (P, f, t, S)), (ansL ns (sigG sd h.toNat 0 (tBatch ++ partG ns lo hi)) (partG ns lo hi) ns.length).map (wrapB (dencB P f t S)), 0) := by
  have hd : dencC P f t S = 0 := by unfold dencC; rw [if_pos hP, hw, hS]; rfl
  have ha := answer_first hl h0 h1 n1 (by omega) hn hv
  have hok : wrapOk (dencB P f t S) (ansL ns (sigG sd h.toNat 0 (tBatch ++ partG ns lo hi)) (partG ns lo hi) ns.length) = true := by
    unfold wrapOk
    rw [List.all_eq_true]
    intro a hm
    have h2 := ansL_props _ _ _ _ a hm
    simp only [ansL, List.mem_map] at hm
    obtain ⟨i, -, rfl⟩ := hm
    have h3 := ans_le ns (sigG sd h.toNat 0 (tBatch ++ partG ns lo hi)) (partG ns lo hi) i (by rw [sigG_len]; omega) (part_le ns lo hi)
    have h4 := denc_le P f t S hP (head_le S hS)
    rw [decide_eq_true_eq]
    exact wrap_fits _ _ h2.2 (denc_mod P f t S) (by omega)
  rw [dansR, if_pos hd, ha, if_pos rfl, if_pos hi', if_pos hok]
end
section
open Go Go.RowKit
set_option linter.unusedVariables false
theorem un_putH (x : Int) (h0 : -9223372036854775808 ≤ x) (h1 : x ≤ 9223372036854775807) : wrap64 ((getB (putB 8 (u64 x)) : Nat) : Int) = x := by
  rw [getB_val, valB_put, show 256 ^ 8 = 18446744073709551616 from by decide]
  have := u64_lt x
  rw [Nat.mod_mod, Nat.mod_eq_of_lt this]
  unfold u64 wrap64
  omega
theorem un_loH (lo hi : Int) (h0 : -9223372036854775808 ≤ lo) (h1 : lo ≤ 9223372036854775807) : unLo (spanB lo hi) = lo := by
  unfold unLo spanB
  rw [List.take_append_of_le_length (by rw [putB_len]; omega), List.take_of_length_le (by rw [putB_len]; omega)]
  exact un_putH lo h0 h1
theorem un_hiH (lo hi : Int) (h0 : -9223372036854775808 ≤ hi) (h1 : hi ≤ 9223372036854775807) : unHi (spanB lo hi) = hi := by
  unfold unHi spanB
  rw [List.drop_append_of_le_length (by rw [putB_len]; omega), List.drop_of_length_le (by rw [putB_len]; omega), List.nil_append]
  exact un_putH hi h0 h1
theorem un_okH (lo hi : Int) (h : vS lo hi = true) : unLo (spanB lo hi) = lo ∧ unHi (spanB lo hi) = hi ∧ unOk (spanB lo hi) = true := by
  have h2 := h
  unfold vS at h2
  simp only [decide_eq_true_eq] at h2
  have e1 := un_loH lo hi (by omega) (by omega)
  have e2 := un_hiH lo hi (by omega) (by omega)
  refine ⟨e1, e2, ?_⟩
  unfold unOk
  rw [e1, e2, h]
  simp [spanB, putB_len]
theorem rtags_ok (ns : List Bs) (lo hi : Int) : encC (rootTags ns lo hi) = 0 := by
  have hr : (rootG (ns.map leafH)).length = 32 := rootG_len _ (leafs_len ns)
  have hc : checkT [] (rootTags ns lo hi) = 0 := by
    have e1 : namedG nROOT = true := by decide
    have e2 : namedG nSPAN = true := by decide
    have o1 : (Op.bytesLess nROOT [] || nROOT == []) = false := by decide
    have o2 : (Op.bytesLess nSPAN nROOT || nSPAN == nROOT) = false := by decide
    have d1 : (rootG (ns.map leafH)).length % 4 = 0 := by omega
    have d2 : (spanB lo hi).length % 4 = 0 := by rw [spanB_len]
    simp only [rootTags, checkT, e1, e2, o1, o2, d1, d2, if_true, Bool.false_eq_true, if_false]
  have hl : (bodyT (rootTags ns lo hi)).length ≤ 2048 := by
    rw [bodyT_len _ (fun x hx => (checkT_ok _ _ hc x hx).1) (by simp [rootTags])]
    simp only [rootTags, dataT, List.map_cons, List.map_nil, List.flatten_cons, List.flatten_nil, List.length_append, List.length_nil, List.length_cons, spanB_len, hr]
    omega
  unfold encC
  rw [if_neg (by simp [rootTags]), if_pos hc, if_neg (by omega)]
theorem atags_ok (ns : List Bs) (S part : Bs) (i : Nat) (hS : S.length ≤ 757) (hp : part.length ≤ 64) (hp4 : part.length % 4 = 0) (hn : ns.length ≤ 16) : encC (ansTags i ns.length (pathG (ns.map leafH) i).flatten S part) = 0 := by
  obtain ⟨p1, p2, p3⟩ := pathF_len ns i
  have h1 := pad4_len S
  have h2 := putB_len 4 i
  have h3 := putB_len 4 ns.length
  have hc : checkT [] (ansTags i ns.length (pathG (ns.map leafH) i).flatten S part) = 0 := by
    have e1 : namedG nINDX = true := by decide
    have e2 : namedG nNUMB = true := by decide
    have e3 : namedG nPATH = true := by decide
    have e4 : namedG nSIGN = true := by decide
    have e5 : namedG nSREP = true := by decide
    have o1 : (Op.bytesLess nINDX [] || nINDX == []) = false := by decide
    have o2 : (Op.bytesLess nNUMB nINDX || nNUMB == nINDX) = false := by decide
    have o3 : (Op.bytesLess nPATH nNUMB || nPATH == nNUMB) = false := by decide
    have o4 : (Op.bytesLess nSIGN nPATH || nSIGN == nPATH) = false := by decide
    have o5 : (Op.bytesLess nSREP nSIGN || nSREP == nSIGN) = false := by decide
    have d1 : (putB 4 i).length % 4 = 0 := by omega
    have d2 : (putB 4 ns.length).length % 4 = 0 := by omega
    have d3 : (pathG (ns.map leafH) i).flatten.length % 4 = 0 := by omega
    have d4 : (pad4 S).length % 4 = 0 := by omega
    simp only [ansTags, checkT, e1, e2, e3, e4, e5, o1, o2, o3, o4, o5, d1, d2, d3, d4, hp4, if_true, Bool.false_eq_true, if_false]
  have hl : (bodyT (ansTags i ns.length (pathG (ns.map leafH) i).flatten S part)).length ≤ 2048 := by
    rw [bodyT_len _ (fun x hx => (checkT_ok _ _ hc x hx).1) (by simp [ansTags])]
    simp only [ansTags, dataT, List.map_cons, List.map_nil, List.flatten_cons, List.flatten_nil, List.length_append, List.length_nil, List.length_cons]
    omega
  unfold encC
  rw [if_neg (by simp [ansTags]), if_pos hc, if_neg (by omega)]
theorem part_mod (ns : List Bs) (lo hi : Int) : (partG ns lo hi).length % 4 = 0 := encT_mod _
theorem part_back (ns : List Bs) (lo hi : Int) (hv : vS lo hi = true) : datN (partG ns lo hi) 0 = rootG (ns.map leafH) ∧ datN (partG ns lo hi) 1 = spanB lo hi ∧ contOk (partG ns lo hi) = true := by
  obtain ⟨d1, d2⟩ := dec_enc _ (rtags_ok ns lo hi)
  have e0 : datN (partG ns lo hi) 0 = rootG (ns.map leafH) := by unfold datN partG; rw [d2]; rfl
  have e1 : datN (partG ns lo hi) 1 = spanB lo hi := by unfold datN partG; rw [d2]; rfl
  refine ⟨e0, e1, ?_⟩
  have hr : (rootG (ns.map leafH)).length = 32 := rootG_len _ (leafs_len ns)
  unfold contOk
  rw [e0, e1, (un_okH lo hi hv).2.2, decide_eq_true hr]
  unfold partG
  rw [d2]
  rfl
/-- The part of a batch, signed. -/
theorem bver_honest (sd : Bs) (h m : Nat) (ns : List Bs) (i : Nat) (lo hi : Int) (hh : h ≤ 6) (hm : m < 2 ^ h) (hn : ns.length ≤ 16) (hi' : i < ns.length) (h32 : (ns.getD i []).length = 32) (hv : vS lo hi = true) :
    bverC (keyG sd h) (ns.getD i []) (ansB ns (sigG sd h m (tBatch ++ partG ns lo hi)) (partG ns lo hi) i) = 0 ∧
    bverLo (keyG sd h) (ns.getD i []) (ansB ns (sigG sd h m (tBatch ++ partG ns lo hi)) (partG ns lo hi) i) = lo ∧
    bverHi (keyG sd h) (ns.getD i []) (ansB ns (sigG sd h m (tBatch ++ partG ns lo hi)) (partG ns lo hi) i) = hi := by
  have hSl := sigG_len sd h m (tBatch ++ partG ns lo hi)
  have hSf := head_sig sd h m (tBatch ++ partG ns lo hi) hh
  have hver := verify_sig sd h m (tBatch ++ partG ns lo hi) hh hm (by have := partG_len ns lo hi; rw [List.length_append]; show 13 + _ ≤ _; omega)
  obtain ⟨c0, c1, cO⟩ := part_back ns lo hi hv
  obtain ⟨u1, u2, u3⟩ := un_okH lo hi hv
  have henc := atags_ok ns (sigG sd h m (tBatch ++ partG ns lo hi)) (partG ns lo hi) i (by omega) (part_le ns lo hi) (part_mod ns lo hi) hn
  obtain ⟨d1, d2⟩ := dec_enc _ henc
  generalize hS : sigG sd h m (tBatch ++ partG ns lo hi) = S at *
  obtain ⟨p1, p2, p3⟩ := pathF_len ns i
  have hb : ansB ns S (partG ns lo hi) i = encT (ansTags i ns.length (pathG (ns.map leafH) i).flatten S (partG ns lo hi)) := rfl
  rw [← hb] at d1 d2
  generalize ansB ns S (partG ns lo hi) i = b at *
  have k0 : datN b 0 = putB 4 i := by unfold datN; rw [d2]; rfl
  have k1 : datN b 1 = putB 4 ns.length := by unfold datN; rw [d2]; rfl
  have k2 : datN b 2 = (pathG (ns.map leafH) i).flatten := by unfold datN; rw [d2]; rfl
  have k3 : datN b 3 = pad4 S := by unfold datN; rw [d2]; rfl
  have k4 : datN b 4 = partG ns lo hi := by unfold datN; rw [d2]; rfl
  have ku := fits_unpad S hSf
  have hok : parseOk b = true := by
    unfold parseOk
    rw [k0, k1, k2, k3, k4, ku, cO, putB_len, putB_len, p3, d2, decide_eq_true (show 32 * (pathG (ns.map leafH) i).length % 32 = 0 by omega)]
    rfl
  have hpc : parseC b = 0 := by unfold parseC; rw [if_pos d1, if_pos hok]
  have hsig : bsigOk (keyG sd h) b = true := by
    unfold bsigOk sigN
    rw [k3, k4, ku]
    exact hver
  have hpath : bpathOk (ns.getD i []) b = true := by
    unfold bpathOk pathN
    rw [k0, k1, k2, k4, c0, getB_put4 _ (by omega), getB_put4 _ (by omega), checkI_in _ _ _ _ _ (by omega) (by omega) hi']
    have hc := cutL_flat 32 (pathG (ns.map leafH) i) [] p2
    rw [List.append_nil] at hc
    rw [p3, show 32 * (pathG (ns.map leafH) i).length / 32 = (pathG (ns.map leafH) i).length by omega, hc]
    have hcl := climb_path _ (ns.map leafH) i [] (Nat.le_refl _) (by rw [List.length_map]; exact hi')
    rw [List.length_map, List.append_nil] at hcl
    have hg : (ns.map leafH).getD i [] = leafH (ns.getD i []) := by
      rw [List.getD_eq_getElem?_getD, List.getElem?_map, List.getElem?_eq_getElem hi', List.getD_eq_getElem?_getD, List.getElem?_eq_getElem hi']
      rfl
    rw [hg] at hcl
    unfold checkG
    rw [hcl]
    simp
  have hC : bverC (keyG sd h) (ns.getD i []) b = 0 := by
    unfold bverC
    rw [if_pos h32, if_pos hpc, if_pos hsig, if_pos hpath]
  refine ⟨hC, ?_, ?_⟩
  · unfold bverLo; rw [if_pos hC, k4, c1, u1]
  · unfold bverHi; rw [if_pos hC, k4, c1, u2]
/-- A delegation that was made, read back. -/
theorem del_honest (sd : Bs) (h m : Nat) (P : Bs) (f t : Int) (hh : h ≤ 6) (hm : m < 2 ^ h) (hP : P.length = 32) (hw : vS f t = true) (S : Bs) (hS : S = sigG sd h m (tGrant ++ P ++ spanB f t)) :
    dencC P f t S = 0 ∧ delC (dencB P f t S) = 0 ∧ delP (dencB P f t S) = P ∧ delLo (dencB P f t S) = f ∧ delHi (dencB P f t S) = t ∧ delS (dencB P f t S) = S ∧ dcheckC (keyG sd h) P f t S = 0 := by
  have hSf : fitsG S = true := by rw [hS]; exact head_sig _ _ _ _ hh
  have hd : dencC P f t S = 0 := by unfold dencC; rw [if_pos hP, hw, hSf]; rfl
  obtain ⟨u1, u2, u3⟩ := un_okH f t hw
  obtain ⟨g1, g2, g3, g4⟩ := del_forth P f t S hd u3
  have hver : verifyG (keyG sd h) (tGrant ++ P ++ spanB f t) S = true := by
    rw [hS]
    refine verify_sig sd h m _ hh hm ?_
    simp only [List.length_append, spanB_len, hP]
    show 13 + 32 + 16 ≤ 65535
    omega
  refine ⟨hd, g1, ?_, ?_, ?_, ?_, ?_⟩
  · unfold delP; rw [if_pos g1, g2]
  · unfold delLo; rw [if_pos g1, g4, u1]
  · unfold delHi; rw [if_pos g1, g4, u2]
  · unfold delS; rw [if_pos g1, g3]; rfl
  · unfold dcheckC
    rw [if_pos ⟨keyG_len _ _, hP⟩, if_pos hw, if_pos hver]
theorem namesA_wrap (a c : Bs) : decide ((wrapT a c).map (·.1) = namesA) = true := by
  rw [decide_eq_true_eq]; rfl
/-- Whatever lies in the first part, behind a delegation that was made. -/
theorem dver_wrap (sd : Bs) (h m : Nat) (P : Bs) (f t : Int) (hh : h ≤ 6) (hm : m < 2 ^ h) (hP : P.length = 32) (hw : vS f t = true) (S : Bs) (hS : S = sigG sd h m (tGrant ++ P ++ spanB f t)) (n a : Bs) (he : encC (wrapT a (dencB P f t S)) = 0) :
    dverC (keyG sd h) n (wrapB (dencB P f t S) a) = dver2C n a P f t ∧
    (dver2C n a P f t = 0 → dverLo (keyG sd h) n (wrapB (dencB P f t S) a) = bverLo P n a ∧ dverHi (keyG sd h) n (wrapB (dencB P f t S) a) = bverHi P n a) := by
  obtain ⟨q1, q2, q3, q4, q5, q6, q7⟩ := del_honest sd h m P f t hh hm hP hw S hS
  obtain ⟨d1, d2⟩ := dec_enc _ he
  have hb : wrapB (dencB P f t S) a = encT (wrapT a (dencB P f t S)) := rfl
  rw [← hb] at d1 d2
  generalize wrapB (dencB P f t S) a = b at *
  have k0 : datN b 0 = a := by unfold datN; rw [d2]; rfl
  have k1 : datN b 1 = dencB P f t S := by unfold datN; rw [d2]; rfl
  have hC : dverC (keyG sd h) n b = dver2C n a P f t := by
    unfold dverC
    rw [if_pos d1, d2, namesA_wrap, if_pos rfl, k0, k1]
    unfold dver1C
    rw [if_pos q2, q3, q4, q5, q6, if_pos q7]
  refine ⟨hC, fun h0 => ?_⟩
  unfold dverLo dverHi
  rw [hC, if_pos h0, if_pos h0, k0, k1, q3]
  exact ⟨rfl, rfl⟩
/-- An honest answer verifies. -/
theorem dver_honest (sd sd2 : Bs) (h m h2 m2 : Nat) (f t lo hi : Int) (ns : List Bs) (i : Nat) (hh : h ≤ 6) (hm : m < 2 ^ h) (hh2 : h2 ≤ 6) (hm2 : m2 < 2 ^ h2) (hw : vS f t = true) (hv : vS lo hi = true) (hin : inS lo hi f t = true) (hn : ns.length ≤ 16) (hi' : i < ns.length) (h32 : (ns.getD i []).length = 32)
    (S : Bs) (hS : S = sigG sd h m (tGrant ++ keyG sd2 h2 ++ spanB f t)) (he : encC (wrapT (ansB ns (sigG sd2 h2 m2 (tBatch ++ partG ns lo hi)) (partG ns lo hi) i) (dencB (keyG sd2 h2) f t S)) = 0) :
    dverC (keyG sd h) (ns.getD i []) (wrapB (dencB (keyG sd2 h2) f t S) (ansB ns (sigG sd2 h2 m2 (tBatch ++ partG ns lo hi)) (partG ns lo hi) i)) = 0 ∧
    dverLo (keyG sd h) (ns.getD i []) (wrapB (dencB (keyG sd2 h2) f t S) (ansB ns (sigG sd2 h2 m2 (tBatch ++ partG ns lo hi)) (partG ns lo hi) i)) = lo ∧
    dverHi (keyG sd h) (ns.getD i []) (wrapB (dencB (keyG sd2 h2) f t S) (ansB ns (sigG sd2 h2 m2 (tBatch ++ partG ns lo hi)) (partG ns lo hi) i)) = hi := by
  obtain ⟨b1, b2, b3⟩ := bver_honest sd2 h2 m2 ns i lo hi hh2 hm2 hn hi' h32 hv
  obtain ⟨e1, e2⟩ := dver_wrap sd h m (keyG sd2 h2) f t hh hm (keyG_len _ _) hw S hS (ns.getD i []) _ he
  have hz : dver2C (ns.getD i []) (ansB ns (sigG sd2 h2 m2 (tBatch ++ partG ns lo hi)) (partG ns lo hi) i) (keyG sd2 h2) f t = 0 := by
    unfold dver2C
    rw [if_pos b1, b2, b3, if_pos hin]
  obtain ⟨e3, e4⟩ := e2 hz
  exact ⟨e1.trans hz, e3.trans b2, e4.trans b3⟩
/-- An honest answer with a span that is not in the window. -/
theorem dver_outside (sd sd2 : Bs) (h m h2 m2 : Nat) (f t lo hi : Int) (ns : List Bs) (i : Nat) (hh : h ≤ 6) (hm : m < 2 ^ h) (hh2 : h2 ≤ 6) (hm2 : m2 < 2 ^ h2) (hw : vS f t = true) (hv : vS lo hi = true) (hin : inS lo hi f t = false) (hn : ns.length ≤ 16) (hi' : i < ns.length) (h32 : (ns.getD i []).length = 32)
    (S : Bs) (hS : S = sigG sd h m (tGrant ++ keyG sd2 h2 ++ spanB f t)) (he : encC (wrapT (ansB ns (sigG sd2 h2 m2 (tBatch ++ partG ns lo hi)) (partG ns lo hi) i) (dencB (keyG sd2 h2) f t S)) = 0) :
    dverC (keyG sd h) (ns.getD i []) (wrapB (dencB (keyG sd2 h2) f t S) (ansB ns (sigG sd2 h2 m2 (tBatch ++ partG ns lo hi)) (partG ns lo hi) i)) = 25 := by
  obtain ⟨b1, b2, b3⟩ := bver_honest sd2 h2 m2 ns i lo hi hh2 hm2 hn hi' h32 hv
  obtain ⟨e1, -⟩ := dver_wrap sd h m (keyG sd2 h2) f t hh hm (keyG_len _ _) hw S hS (ns.getD i []) _ he
  rw [e1]
  unfold dver2C
  rw [if_pos b1, b2, b3, hin]
  rfl
end
section
open Go Go.RowKit
set_option linter.unusedVariables false
section
variable {w w' : World} {base n size : Nat} {T : TypeId} {v : Value} {ss : List Spec}
theorem OwnR.poke {G j : Nat} {T' : TypeId} {v' : Value} {xs : List Value} (h : OwnR w base T v size n ss) (hG : G < base) (hbx : Box w G T' xs) (hno : NoByte xs) : OwnR (w.setCell ⟨G, j, none⟩ v') base T v size n ss := by
  have hlt := h.lt
  obtain ⟨h0, vs, h1, h2⟩ := h
  have hne : v.ownBlock ≠ some G := fun e => by have := (hlt G e).1; omega
  refine ⟨h0, vs, h1.kept (setCell_grown w G j v') (.inr hne), fun k s hk => ?_⟩
  obtain ⟨u, e1, e2⟩ := h2 k s hk
  refine ⟨u, e1, ?_⟩
  cases s with
  | val x => exact e2
  | byt l => exact ⟨SeesB.more (e2.1.stay fun hl k hk p hp => World.cell?_setCell_other w _ p v' (fun e => e2.1.notin hbx hno hl (by rw [hk, ← hp, ← e]))) (by simp [World.setCell]), e2.2⟩
theorem before {w7 X w8 : World} (h : Below w7.heap.size w7 X) (h8 : Below X.heap.size X w8) : w7.heap.size ≤ X.heap.size := h.size
end
end
section
open Go Go.RowKit
set_option linter.unusedVariables false
set_option linter.unusedSimpArgs false
attribute [local go_sem ↓] Go.wp_at_zero Go.wp_at_succ
theorem boxn {w : World} {g : Nat} {T : TypeId} {xs : List Value} (h : g = w.heap.size) : Box (w.alloc (.cells xs.toArray T)) g T xs := by subst h; exact Box.new w T xs
end
section
open Go Go.RowKit
set_option linter.unusedVariables false
theorem SeesR.cut {w : World} {B size n c a b : Nat} {A : Option Addr} {ss : List Spec} (h : SeesR w B (.slice A n c) size n ss) (hab : a ≤ b) (hb : b ≤ n) :
    SeesR w B (.slice (cutA A c a size) (b - a) (c - a)) size (b - a) ((ss.drop (a * size)).take ((b - a) * size)) := by
  obtain ⟨h0, vs, hs, hv⟩ := h
  have hm : (b - a) * size + a * size ≤ n * size := by
    rw [← Nat.add_mul]; exact Nat.mul_le_mul_right _ (by omega)
  refine ⟨by rw [List.length_take, List.length_drop, h0]; omega, _, hs.cut hab hb, fun k s hk => ?_⟩
  have hkl : k < (b - a) * size := by
    have := (List.getElem?_eq_some_iff.1 hk).1
    rw [List.length_take] at this; omega
  rw [List.getElem?_take, if_pos hkl, List.getElem?_drop] at hk ⊢
  exact hv _ s hk
end
section
open Go Go.RowKit
set_option linter.unusedVariables false
theorem dans_one_ok {sd2 nn S : Bs} {h2 : Nat} {f t lo hi : Int} (hl : sd2.length = 32) (hh : h2 ≤ 6) (hn : nn.length = 32) (hv : vS lo hi = true) (hS : fitsG S = true) (hw : vS f t = true) (hi' : inS lo hi f t = true) :
    dansR sd2 (h2 : Int) 0 (keyG sd2 h2) f t S [nn] lo hi = (((sd2, (h2 : Int), 1), (keyG sd2 h2, f, t, S)), [wrapB (dencB (keyG sd2 h2) f t S) (ansB [nn] (sigG sd2 h2 0 (tBatch ++ partG [nn] lo hi)) (partG [nn] lo hi) 0)], 0) ∧
      encC (wrapT (ansB [nn] (sigG sd2 h2 0 (tBatch ++ partG [nn] lo hi)) (partG [nn] lo hi) 0) (dencB (keyG sd2 h2) f t S)) = 0 := by
  have hd := dans_first (sd := sd2) (P := keyG sd2 h2) (S := S) (h := (h2 : Int)) (f := f) (t := t) (ns := [nn]) (lo := lo) (hi := hi) hl (by omega) (by omega) (by simp) (by simp) (by intro l hl; simp at hl; rw [hl]; exact hn) hv (keyG_len _ _) hS hw hi'
  rw [Int.toNat_natCast] at hd
  refine ⟨hd, ?_⟩
  have h2' := ansL_props [nn] (sigG sd2 h2 0 (tBatch ++ partG [nn] lo hi)) (partG [nn] lo hi) 1 (ansB [nn] (sigG sd2 h2 0 (tBatch ++ partG [nn] lo hi)) (partG [nn] lo hi) 0) (by simp [ansL])
  have h3 := ans_le [nn] (sigG sd2 h2 0 (tBatch ++ partG [nn] lo hi)) (partG [nn] lo hi) 0 (by rw [sigG_len]; omega) (part_le [nn] lo hi)
  have h4 := denc_le (keyG sd2 h2) f t S (keyG_len _ _) (head_le S hS)
  rw [List.length_singleton] at h3
  exact wrap_fits _ _ h2'.2 (denc_mod _ f t S) (by omega)
theorem pubG_key (sd : Bs) (h : Nat) (hl : sd.length = 32) (hh : h ≤ 6) : pubG sd (h : Int) = keyG sd h := by
  unfold pubG
  rw [if_pos ⟨hl, by omega, by omega⟩, Int.toNat_natCast]
end
section
open Go Go.RowKit
set_option linter.unusedVariables false
theorem grant_at1 {sd p : Bs} {f t : Int} (h1 : sd.length = 32) (h2 : p.length = 32) (h3 : vS f t = true) :
    grantR sd 1 0 p f t = ((sd, 1, 1), (p, f, t, sigG sd 1 0 (tGrant ++ p ++ spanB f t)), 0) ∧ grantR sd 1 1 p f t = ((sd, 1, 2), (p, f, t, sigG sd 1 1 (tGrant ++ p ++ spanB f t)), 0) := by
  have hv0 : validI sd 1 0 = true := by unfold validI; simp [h1]
  have hv1 : validI sd 1 1 = true := by unfold validI; simp [h1]
  have hs0 : ∀ m, signAll sd 1 0 m = (sd, 1, 1, sigG sd 1 0 m, 0) := fun m => by
    unfold signAll
    rw [if_pos hv0, if_neg (by decide)]
    rfl
  have hs1 : ∀ m, signAll sd 1 1 m = (sd, 1, 2, sigG sd 1 1 m, 0) := fun m => by
    unfold signAll
    rw [if_pos hv1, if_neg (by decide)]
    rfl
  refine ⟨?_, ?_⟩
  · unfold grantR
    rw [if_pos hv0, if_pos h2, if_pos h3, hs0]
    rfl
  · unfold grantR
    rw [if_pos hv1, if_pos h2, if_pos h3, hs1]
    rfl
theorem four_vS {a b : Int} (h : 0 ≤ a ∧ a ≤ b ∧ b ≤ 4000) : vS a b = true := by
  unfold vS
  rw [decide_eq_true_iff]
  omega
theorem four_inS {a b f t : Int} (h : 0 ≤ a ∧ a ≤ b ∧ b ≤ 4000) (h2 : 0 ≤ f ∧ f ≤ t ∧ t ≤ 4000) : inS a b f t = (decide (f ≤ a) && decide (b ≤ t)) := by
  unfold inS
  rw [four_vS h, four_vS h2]
  rfl
theorem denc_exact {P S : Bs} {f t : Int} (hd : dencC P f t S = 0) (hP : P.length = 32) (hS : S.length = 597) : (dencB P f t S).length = 672 := by
  unfold dencB
  rw [if_pos hd, bodyT_len _ (by intro x hx; simp only [dtags, List.mem_cons, List.not_mem_nil, or_false] at hx; rcases hx with rfl | rfl | rfl <;> rfl) (by simp [dtags])]
  simp only [dtags, dataT, List.map_cons, List.map_nil, List.flatten_cons, List.flatten_nil, List.length_append, List.length_nil, List.length_cons, spanB_len, pad4_len, hP, hS]
  try omega
theorem wrap_body {a c : Bs} (he : encC (wrapT a c) = 0) : wrapB c a = (putB 4 2 ++ putB 4 a.length ++ (nANSW ++ nCERT) ++ a) ++ c := by
  unfold wrapB encT
  rw [if_pos he]
  simp [bodyT, wrapT, placesT, namesT, dataT, List.append_assoc]
theorem wrap_exact {a c : Bs} (he : encC (wrapT a c) = 0) : (wrapB c a).length = 16 + a.length + c.length := by
  rw [wrap_body he]
  simp only [List.length_append, putB_len]
  show 4 + 4 + (4 + 4) + a.length + c.length = _
  omega
theorem wrap_swap {a c d : Bs} (h1 : encC (wrapT a c) = 0) (h2 : encC (wrapT a d) = 0) (hl : c.length = d.length) : (wrapB c a).take ((wrapB c a).length - d.length) ++ d = wrapB d a := by
  rw [wrap_body h1, wrap_body h2, ← hl]
  congr 1
  rw [List.length_append, Nat.add_sub_cancel, List.take_left]
/-- What the law's walk meets. -/
theorem win_plain {sd sd2 nn : Bs} {f t lo hi : Int} (l1 : sd.length = 32) (l2 : sd2.length = 32) (hn : nn.length = 32) (hw : 0 ≤ f ∧ f ≤ t ∧ t ≤ 4000) (hv : 0 ≤ lo ∧ lo ≤ hi ∧ hi ≤ 2000) : ∃ S1 S2 : Bs,
    grantR sd 1 0 (pubG sd2 1) f t = ((sd, 1, 1), (pubG sd2 1, f, t, S1), 0) ∧ grantR sd 1 1 (pubG sd2 1) 0 2000 = ((sd, 1, 2), (pubG sd2 1, 0, 2000, S2), 0) ∧
    S1.length = 597 ∧ S2.length = 597 ∧ (dencB (pubG sd2 1) f t S1).length = 672 ∧ dencC (pubG sd2 1) f t S1 = 0 ∧
    ((decide (f ≤ lo) && decide (hi ≤ t)) = true → ∃ y : Bs, dansR sd2 1 0 (pubG sd2 1) f t S1 [nn] lo hi = (((sd2, 1, 1), (pubG sd2 1, f, t, S1)), [y], 0) ∧ y.length ≤ 2048 ∧ dverC (pubG sd 1) nn y = 0 ∧ dverLo (pubG sd 1) nn y = lo ∧ dverHi (pubG sd 1) nn y = hi) ∧
    ((decide (f ≤ lo) && decide (hi ≤ t)) = false → dansR sd2 1 0 (pubG sd2 1) f t S1 [nn] lo hi = (noGrant, [], 25) ∧ ∃ y : Bs, dansR sd2 1 0 (pubG sd2 1) 0 2000 S2 [nn] lo hi = (((sd2, 1, 1), (pubG sd2 1, 0, 2000, S2)), [y], 0) ∧ 700 ≤ y.length ∧ y.length ≤ 2048 ∧ (y.take (y.length - 672) ++ dencB (pubG sd2 1) f t S1).length ≤ 2048 ∧ dverC (pubG sd 1) nn (y.take (y.length - 672) ++ dencB (pubG sd2 1) f t S1) = 25) := by
  have p1 : pubG sd 1 = keyG sd 1 := pubG_key sd 1 l1 (by omega)
  have p2 : pubG sd2 1 = keyG sd2 1 := pubG_key sd2 1 l2 (by omega)
  have hP : (keyG sd2 1).length = 32 := keyG_len _ _
  have v1 := four_vS hw
  have v2 : vS 0 2000 = true := four_vS (by omega)
  have v3 := four_vS (a := lo) (b := hi) (by omega)
  rw [p1, p2]
  obtain ⟨S1, hS1⟩ : ∃ S, S = sigG sd 1 0 (tGrant ++ keyG sd2 1 ++ spanB f t) := ⟨_, rfl⟩
  obtain ⟨S2, hS2⟩ : ∃ S, S = sigG sd 1 1 (tGrant ++ keyG sd2 1 ++ spanB 0 2000) := ⟨_, rfl⟩
  have f1 : fitsG S1 = true := by rw [hS1]; exact head_sig _ _ _ _ (by omega)
  have f2 : fitsG S2 = true := by rw [hS2]; exact head_sig _ _ _ _ (by omega)
  have L1 : S1.length = 597 := by rw [hS1, sigG_len]
  have L2 : S2.length = 597 := by rw [hS2, sigG_len]
  have d1 : dencC (keyG sd2 1) f t S1 = 0 := by unfold dencC; rw [if_pos hP, v1, f1]; rfl
  have d2 : dencC (keyG sd2 1) 0 2000 S2 = 0 := by unfold dencC; rw [if_pos hP, v2, f2]; rfl
  have e1 := denc_exact d1 hP L1
  have e2 := denc_exact d2 hP L2
  refine ⟨S1, S2, ?_, ?_, L1, L2, e1, d1, ?_, ?_⟩
  · rw [hS1]; exact (grant_at1 l1 hP v1).1
  · rw [hS2]; exact (grant_at1 l1 hP v2).2
  · intro hin
    have hi1 : inS lo hi f t = true := by rw [four_inS (by omega) hw]; exact hin
    obtain ⟨g1, g2⟩ := dans_one_ok (sd2 := sd2) (nn := nn) (S := S1) (h2 := 1) l2 (by omega) hn v3 f1 v1 hi1
    have hh := dver_honest sd sd2 1 0 1 0 f t lo hi [nn] 0 (by omega) (by omega) (by omega) (by omega) v1 v3 hi1 (by simp) (by simp) hn S1 hS1 g2
    exact ⟨_, g1, encT_len _, hh.1, hh.2.1, hh.2.2⟩
  · intro hin
    have hi1 : inS lo hi f t = false := by rw [four_inS (by omega) hw]; exact hin
    have hi2 : inS lo hi 0 2000 = true := by rw [four_inS (by omega) (by omega), decide_eq_true (by omega), decide_eq_true (by omega)]; rfl
    have ha := answer_first (sd := sd2) (h := 1) (ns := [nn]) (lo := lo) (hi := hi) l2 (by omega) (by omega) (by simp) (by simp) (by intro l hl; simp at hl; rw [hl]; exact hn) v3
    refine ⟨?_, ?_⟩
    · unfold dansR
      rw [if_pos d1, ha, if_pos rfl, hi1]
      rfl
    · obtain ⟨g1, g2⟩ := dans_one_ok (sd2 := sd2) (nn := nn) (S := S2) (h2 := 1) l2 (by omega) hn v3 f2 v2 hi2
      have q1 := ansL_props [nn] (sigG sd2 1 0 (tBatch ++ partG [nn] lo hi)) (partG [nn] lo hi) 1 (ansB [nn] (sigG sd2 1 0 (tBatch ++ partG [nn] lo hi)) (partG [nn] lo hi) 0) (by simp [ansL])
      have q2 := ans_le [nn] (sigG sd2 1 0 (tBatch ++ partG [nn] lo hi)) (partG [nn] lo hi) 0 (by rw [sigG_len]; omega) (part_le [nn] lo hi)
      rw [List.length_singleton] at q2
      have g3 : encC (wrapT (ansB [nn] (sigG sd2 1 0 (tBatch ++ partG [nn] lo hi)) (partG [nn] lo hi) 0) (dencB (keyG sd2 1) f t S1)) = 0 := wrap_fits _ _ q1.2 (denc_mod _ f t S1) (by omega)
      have q3 := wrap_exact g2
      have q4 := wrap_exact g3
      have hsw := wrap_swap g2 g3 (by omega)
      have hh := dver_outside sd sd2 1 0 1 0 f t lo hi [nn] 0 (by omega) (by omega) (by omega) (by omega) v1 v3 hi1 (by simp) (by simp) hn S1 hS1 g3
      have q5 : 100 ≤ (ansB [nn] (sigG sd2 1 0 (tBatch ++ partG [nn] lo hi)) (partG [nn] lo hi) 0).length := by
        have ho := atags_ok [nn] (sigG sd2 1 0 (tBatch ++ partG [nn] lo hi)) (partG [nn] lo hi) 0 (by rw [sigG_len]; omega) (part_le [nn] lo hi) (part_mod [nn] lo hi) (by simp)
        have h5 := pad4_len (sigG sd2 1 0 (tBatch ++ partG [nn] lo hi))
        rw [sigG_len] at h5
        unfold ansB encT
        rw [if_pos ho, bodyT_len _ (by intro x hx; simp only [ansTags, List.mem_cons, List.not_mem_nil, or_false] at hx; rcases hx with rfl | rfl | rfl | rfl | rfl <;> rfl) (by simp [ansTags])]
        simp only [ansTags, dataT, List.map_cons, List.map_nil, List.flatten_cons, List.flatten_nil, List.length_append, List.length_nil, List.length_cons]
        omega
      rw [e1] at hsw
      refine ⟨_, g1, ?_, encT_len _, ?_, ?_⟩
      · omega
      · rw [hsw]; exact encT_len _
      · rw [hsw]; exact hh
end
section
open Go Go.RowKit
set_option linter.unusedVariables false
theorem pathG_set (m : Nat) : ∀ (hs : List Bs) (i : Nat) (x : Bs), hs.length ≤ m → i < hs.length → pathG (hs.set i x) i = pathG hs i := by
  induction m with
  | zero => intro hs i x hm hi; omega
  | succ m ih =>
    intro hs i x hm hi
    by_cases h2 : 2 ≤ hs.length
    · have h2' : 2 ≤ (hs.set i x).length := by rw [List.length_set]; exact h2
      have hsp := splitN_lt hs.length h2
      by_cases hk : i < splitN hs.length
      · rw [pathG_left _ i h2' (by rw [List.length_set]; exact hk), pathG_left hs i h2 hk, List.length_set, List.take_set, List.drop_set, if_pos hk, ih _ i x (by rw [List.length_take]; omega) (by rw [List.length_take]; omega)]
      · rw [pathG_right _ i h2' (by rw [List.length_set]; exact hk), pathG_right hs i h2 hk, List.length_set, List.drop_set, if_neg hk, List.take_set, ih _ _ x (by rw [List.length_drop]; omega) (by rw [List.length_drop]; omega), List.set_eq_of_length_le (by rw [List.length_take]; omega)]
    · rw [pathG_one _ _ h2, pathG_one _ _ (by rw [List.length_set]; exact h2)]
theorem bver_other (n' : Bs) (h32' : n'.length = 32) (sd : Bs) (h m : Nat) (ns : List Bs) (i : Nat) (lo hi : Int) (hh : h ≤ 6) (hm : m < 2 ^ h) (hn : ns.length ≤ 16) (hi' : i < ns.length) (hr : rootG ((ns.map leafH).set i (leafH n')) ≠ rootG (ns.map leafH)) (hv : vS lo hi = true) :
    bverC (keyG sd h) n' (ansB ns (sigG sd h m (tBatch ++ partG ns lo hi)) (partG ns lo hi) i) = 23 := by
  have hSl := sigG_len sd h m (tBatch ++ partG ns lo hi)
  have hSf := head_sig sd h m (tBatch ++ partG ns lo hi) hh
  have hver := verify_sig sd h m (tBatch ++ partG ns lo hi) hh hm (by have := partG_len ns lo hi; rw [List.length_append]; show 13 + _ ≤ _; omega)
  obtain ⟨c0, c1, cO⟩ := part_back ns lo hi hv
  obtain ⟨u1, u2, u3⟩ := un_okH lo hi hv
  have henc := atags_ok ns (sigG sd h m (tBatch ++ partG ns lo hi)) (partG ns lo hi) i (by omega) (part_le ns lo hi) (part_mod ns lo hi) hn
  obtain ⟨d1, d2⟩ := dec_enc _ henc
  generalize hS : sigG sd h m (tBatch ++ partG ns lo hi) = S at *
  obtain ⟨p1, p2, p3⟩ := pathF_len ns i
  have hb : ansB ns S (partG ns lo hi) i = encT (ansTags i ns.length (pathG (ns.map leafH) i).flatten S (partG ns lo hi)) := rfl
  rw [← hb] at d1 d2
  generalize ansB ns S (partG ns lo hi) i = b at *
  have k0 : datN b 0 = putB 4 i := by unfold datN; rw [d2]; rfl
  have k1 : datN b 1 = putB 4 ns.length := by unfold datN; rw [d2]; rfl
  have k2 : datN b 2 = (pathG (ns.map leafH) i).flatten := by unfold datN; rw [d2]; rfl
  have k3 : datN b 3 = pad4 S := by unfold datN; rw [d2]; rfl
  have k4 : datN b 4 = partG ns lo hi := by unfold datN; rw [d2]; rfl
  have ku := fits_unpad S hSf
  have hok : parseOk b = true := by
    unfold parseOk
    rw [k0, k1, k2, k3, k4, ku, cO, putB_len, putB_len, p3, d2, decide_eq_true (show 32 * (pathG (ns.map leafH) i).length % 32 = 0 by omega)]
    rfl
  have hpc : parseC b = 0 := by unfold parseC; rw [if_pos d1, if_pos hok]
  have hsig : bsigOk (keyG sd h) b = true := by
    unfold bsigOk sigN
    rw [k3, k4, ku]
    exact hver
  have hpath : bpathOk n' b = false := by
    unfold bpathOk pathN
    rw [k0, k1, k2, k4, c0, getB_put4 _ (by omega), getB_put4 _ (by omega), checkI_in _ _ _ _ _ (by omega) (by omega) hi']
    have hc := cutL_flat 32 (pathG (ns.map leafH) i) [] p2
    rw [List.append_nil] at hc
    rw [p3, show 32 * (pathG (ns.map leafH) i).length / 32 = (pathG (ns.map leafH) i).length by omega, hc]
    have hil : i < (ns.map leafH).length := by rw [List.length_map]; exact hi'
    have hcl := climb_path _ ((ns.map leafH).set i (leafH n')) i [] (Nat.le_refl _) (by rw [List.length_set]; exact hil)
    rw [pathG_set _ _ _ _ (Nat.le_refl _) hil, List.length_set, List.length_map, List.append_nil] at hcl
    have hg : ((ns.map leafH).set i (leafH n')).getD i [] = leafH n' := by
      rw [List.getD_eq_getElem?_getD, List.getElem?_set_self hil]; rfl
    rw [hg] at hcl
    unfold checkG
    rw [hcl]
    simp [hr]
  unfold bverC
  rw [if_pos h32', if_pos hpc, if_pos hsig, if_neg (by rw [hpath]; simp)]
theorem sp2 : splitN 2 = 1 := splitN_of 2 0 (by omega) (by omega) (by omega)
theorem root1 (a : Bs) : rootG [a] = a := rootG_one a
theorem root2 (a b : Bs) : rootG [a, b] = nodeH a b := by
  rw [rootG_two _ (by simp), show [a, b].length = 2 from rfl, sp2]
  show nodeH (rootG [a]) (rootG [b]) = _
  rw [root1, root1]
end
end Go.Proofs.YtamdgjgommejjaaGreat

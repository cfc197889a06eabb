/- What a law leans on beyond the base: contracts, plain functions, walks. Conditions: those of each theorem. -/
import Derived.Test.YtjgepckncogdaaaGreatLCtZ
set_option linter.unusedVariables false
set_option linter.unusedSimpArgs false
namespace Go.Proofs.YtjgepckncogdaaaGreat
open Go Go.RowKit
set_option linter.unusedVariables false
set_option linter.unusedSimpArgs false
attribute [local go_sem ↓] Go.wp_at_zero Go.wp_at_succ
def SpanT (g g9 : Nat) (u : Value) (l : List Int) (w4 : World) (lo hi : Int) (W : World) : Prop :=
 ∃ k, Box W g9 24 [.int .i64 lo, .int .i64 hi] ∧ TapeAt W g u l k ∧ w4.grownBy W (some g) ∧ lo ≤ hi ∧ hi ≤ lo + 100
theorem tape_set1 {W : World} {g g4 j : Nat} {u : Value} {l : List Int} {k : Nat} (h : TapeAt W g u l k) (hg : g < g4) (y : Value) : TapeAt (W.setCell ⟨g4, j, none⟩ y) g u l k := by
 obtain ⟨h1, h2, h3⟩ := h
 exact ⟨h1.other (by omega), Sees.below h2 ((Below.refl g W).setCell (p := ⟨g4, j, none⟩) (Nat.le_of_lt hg) y), h3⟩
set_option maxRecDepth 100000 in
set_option maxHeartbeats 8000000 in
theorem ckeeps_law (v : Int) (wf0 : (Lit.int .i64 v).wf = true) (B : Nat) (u : Value) (l : List Int) (w : World) (s : SeesT w B u l) (hB : B ≤ w.heap.size) :
 Calls Tryz.prog 7 #[.int .i64 v, u] w fun e w' => e = .returned (.bool true) ∧ Below w.heap.size w w' := by
 obtain ⟨Ar, cr, rfl, -, -⟩ := s.mk_
 clear wf0
 have hkn := Lib.hid (fun W => ckn_any W)
 have hnew := Lib.hid (tnew_any _ l w (Sees.more s hB))
 have hin := Lib.hid (fun g (n : Int) (hn : 1 ≤ n) (hn2 : n ≤ 1048576) W k (h : TapeAt W g (.slice Ar l.length cr) l k) => tint_any g _ l k n W h hn hn2)
 clear s hB
 go_enter Tryz.func7, Tryz.ntmps7
 go_wp2_with fail
 refine hnew.out.mono ?_
 rintro e w1 ⟨rfl, t1, hb1, hgl⟩
 have hwin := Lib.hid (kwindows_any _ _ l 0 w1 t1)
 have hgw := Lib.hid (Nat.le_refl w.heap.size)
 generalize hgg : w.heap.size = g at t1 hwin hgl ⊢
 replace hgg := Lib.hid hgg
 replace hgl := Lib.hid hgl
 clear hnew t1 hgw
 dsimp only
 go_wp2_with fail
 refine hwin.out.mono ?_
 rintro e w2 ⟨v2, ws, k2, rfl, o2, hw1, hw3, hsm, t2, g2⟩
 have hb2 := Lib.hid (below_tape hb1 g2 (Nat.le_of_eq hgg.out) hb1.size)
 have ss2 := Sees.of_own o2
 have hvv : ∀ k, k < ws.length → vS (ws.getD k (0, 0)).1 (ws.getD k (0, 0)).2 = true := fun k hk => by
  have hm : ws.getD k (0, 0) ∈ ws := by rw [List.getD_eq_getElem?_getD, List.getElem?_eq_getElem hk]; exact List.getElem_mem hk
  have := hsm _ hm
  rw [vS_iff]; omega
 have hcer := Lib.hid (kcerts_any v w2.heap.size v2 ws w2 ss2 (Nat.le_refl _) (by omega) (by omega) hvv)
 obtain ⟨A2, c2, rfl, -, -⟩ := ss2.mk_
 have hz2 : Hid (g < w2.heap.size) := Nat.lt_of_lt_of_le hgl.out g2.size
 replace hvv := Lib.hid hvv
 replace o2 := Lib.hid o2
 replace t2 := Lib.hid t2
 clear ss2 hwin hb1 g2 hsm
 dsimp only
 go_wp2_with fail
 refine hcer.out.mono ?_
 rintro e w3 ⟨v3, v4, rfl, o3, r3, f3, hb3⟩
 have hal3 := t2.out.grown hb3
 have ow3 := own_below o2.out hb3
 have hbw3 := Lib.hid (bgo hb2.out hb3)
 have hz3 := Lib.hid (Nat.lt_of_lt_of_le hz2.out hb3.size)
 obtain ⟨A3, c3, rfl, -, -⟩ := o3.own.sees.mk_
 obtain ⟨A4, c4, rfl, -, -⟩ := r3.mk_
 have hi3 := Lib.hid (hin.out g 60 (by omega) (by omega) w3 _ hal3)
 have hz23 := hb3.size
 clear hcer hb3 o2 t2 hal3
 dsimp only
 go_wp2_with fail
 refine hi3.out.mono ?_
 rintro e w4 ⟨rfl, t4, g4⟩
 have a1 := Int.emod_nonneg (l.getD k2 0) (show (60 : Int) ≠ 0 by omega)
 have a2 := Int.emod_lt_of_pos (l.getD k2 0) (show (0 : Int) < 60 by omega)
 have o4 := o3.tape g4 hz2.out
 have r4 := sees_grown_far r3 f3 g4 (fun j hj => by cases hj; exact hz2.out)
 have ow4 := row_tape ow3 g4 hgl.out
 have hbw4 := below_tape hbw3.out g4 (Nat.le_of_eq hgg.out) hbw3.out.size
 have hz4 := Nat.lt_of_lt_of_le hz3.out g4.size
 generalize l.getD k2 0 % 60 = lo at *
 have hal := balloc w4 (.cells #[.int .i64 lo, .int .i64 0] 24)
 have x9 := Box.new w4 24 [.int .i64 lo, .int .i64 0]
 change Box (w4.alloc (.cells #[.int .i64 lo, .int .i64 0] 24)) _ _ _ at x9
 have t5 := t4.grown hal
 have g45a := Lib.hid (grown_of_below hal (some g))
 replace o4 := Lib.hid o4
 replace r4 := Lib.hid r4
 replace ow4 := Lib.hid ow4
 replace hbw4 := Lib.hid hbw4
 replace f3 := Lib.hid f3
 have hg9e : Hid (w4.heap.size ≤ w4.heap.size) := Nat.le_refl w4.heap.size
 have hne9 : Hid (w4.heap.size ≠ g) := by show _ ≠ _; omega
 dsimp only
 go_upto_region 5 with (fail)
 generalize w4.alloc (.cells #[.int .i64 lo, .int .i64 0] 24) = W4 at *
 generalize hg9g : w4.heap.size = g9 at x9 hne9 ⊢
 have hg9e : Hid (w4.heap.size ≤ g9) := Nat.le_of_eq hg9g
 replace hg9g := Lib.hid hg9g
 have hgg9 : Hid (g ≤ g9) := by have := hg9g.out; show _ ≤ _; omega
 have hin2 := Lib.hid (hin.out g 40 (by omega) (by omega) W4.drew _ t5.drew)
 have b1 := Int.emod_nonneg (l.getD (stepK l k2) 0) (show (40 : Int) ≠ 0 by omega)
 have b2 := Int.emod_lt_of_pos (l.getD (stepK l k2) 0) (show (0 : Int) < 40 by omega)
 generalize l.getD (stepK l k2) 0 % 40 = y at *
 have iwy : IntKind.i64.wrap (lo + y) = lo + y := by rw [IntKind.wrap_i64]; omega
 have x9d := Lib.hid (x9.below (bdrew W4))
 have k3 : W4.cell? ⟨g9, 0, none⟩ = some (.int .i64 lo) := x9.cell 0
 have k3d : W4.drew.cell? ⟨g9, 0, none⟩ = some (.int .i64 lo) := x9d.out.cell 0
 have hg9l : Hid (g9 < W4.drew.heap.size) := x9d.out.lt
 replace x9 := Lib.hid x9
 clear t5 t4 g4 hal
 go_cut [31] (fun v31 W => ∃ hi, v31 = .int .i64 hi ∧ SpanT g g9 (.slice Ar l.length cr) l w4 lo hi W)
 case first =>
  refine wp_region_J (fun W' : World => W'.cell? ⟨g9, 0, none⟩ = some (.int .i64 lo)) 6 (by kernel_rfl) ?_ (fun hHeld => ?_)
  · (try dsimp only); (first | exact k4 | exact k3 | exact k3d)
  refine wpAnyJ_take0 (i := 0) (v := ?_) rfl (by kernel_rfl) (by kernel_rfl) (by kernel_rfl) (fun _ _ _ h => h) (by rfl) (Or.inl ⟨by rfl, ?_⟩) (by assumption) ?_
  rotate_left 1
  · intro w hSw; (try dsimp only at hSw); go_simp <;> (try with_reducible rfl)
  try simp only [Act.put, List.getElem_toArray, List.getElem_cons_succ, List.getElem_cons_zero, List.setIfInBounds_toArray, List.set_cons_zero, List.set_cons_succ]
  refine wpAnyJ_take (i := 1) (v := ?_) rfl (by kernel_rfl) (by kernel_rfl) (by kernel_rfl) (fun _ _ _ h => h) (by rfl) rfl (by kernel_rfl) (by kernel_rfl) (Or.inl ⟨by rfl, ?_⟩) (by assumption) ?_
  rotate_left 1
  · intro w hSw; (try dsimp only at hSw); go_simp <;> (try with_reducible rfl)
  try simp only [Act.put, List.getElem_toArray, List.getElem_cons_succ, List.getElem_cons_zero, List.setIfInBounds_toArray, List.set_cons_zero, List.set_cons_succ]
  refine wpAnyJ_take0 (i := 2) (v := ?_) rfl (by kernel_rfl) (by kernel_rfl) (by kernel_rfl) (fun _ _ _ h => h) (by rfl) (Or.inl ⟨by rfl, ?_⟩) (by assumption) ?_
  rotate_left 1
  · intro w hSw; (try dsimp only at hSw); go_simp <;> (try with_reducible rfl)
  try simp only [Act.put, List.getElem_toArray, List.getElem_cons_succ, List.getElem_cons_zero, List.setIfInBounds_toArray, List.set_cons_zero, List.set_cons_succ]
  refine wpAnyJ_ready (rs := [3]) (by kernel_rfl) (by simp) ?_
  refine AllReadyJ.cons (o := _) rfl (fun Kq hKq => ?_) ?_
  · go_simp
    go_at_call 37
    with_reducible refine hin2.out.mono ?_
    rintro e w6 ⟨rfl, t6, g6⟩
    have x6 : Box w6 g9 24 [.int .i64 lo, .int .i64 0] := (g6.block g9 hg9l.out (fun e => hne9.out (Option.some.inj e))).trans x9d.out
    obtain ⟨k4, k5, f4, f5⟩ := box2_cells x6
    go_wp2_with fail
    refine hKq.out _ _ ?_ (fun hHeld => ?_)
    · intro _; (try dsimp only); (first | exact k4 | exact k3 | exact k3d)
    clear hKq Kq
    try simp only [Act.put, List.getElem_toArray, List.getElem_cons_succ, List.getElem_cons_zero, List.setIfInBounds_toArray, List.set_cons_zero, List.set_cons_succ]
    refine wpAnyJ_take0 (i := 4) (v := ?_) rfl (by kernel_rfl) (by kernel_rfl) (by kernel_rfl) (fun _ _ _ h => h) (by rfl) (Or.inl ⟨by rfl, ?_⟩) (by assumption) ?_
    rotate_left 1
    · intro w hSw; (try dsimp only at hSw); go_simp <;> (try with_reducible rfl)
    try simp only [Act.put, List.getElem_toArray, List.getElem_cons_succ, List.getElem_cons_zero, List.setIfInBounds_toArray, List.set_cons_zero, List.set_cons_succ]
    refine wpAnyJ_take0 (i := 5) (v := ?_) rfl (by kernel_rfl) (by kernel_rfl) (by kernel_rfl) (fun _ _ _ h => h) (by rfl) (Or.inl ⟨by rfl, ?_⟩) (by assumption) ?_
    rotate_left 1
    · intro w hSw; (try dsimp only at hSw); go_simp <;> (try with_reducible rfl)
    try simp only [Act.put, List.getElem_toArray, List.getElem_cons_succ, List.getElem_cons_zero, List.setIfInBounds_toArray, List.set_cons_zero, List.set_cons_succ]
    refine wpAnyJ_ready (rs := [6]) (by kernel_rfl) (by simp) ?_
    refine AllReadyJ.cons (o := _) rfl (fun Kq hKq => ?_) ?_
    · go_simp
      refine hKq.out _ _ ?_ (fun hHeld => ?_)
      · intro hl; exact absurd hl (by decide)
      clear hKq Kq
      try simp only [Act.put, List.getElem_toArray, List.getElem_cons_succ, List.getElem_cons_zero, List.setIfInBounds_toArray, List.set_cons_zero, List.set_cons_succ]
      refine wpAnyJ_done (by kernel_rfl) ?_ _
      have x7 := x6.set 1 (.int .i64 (lo + y))
      simp only [List.set_cons_zero, List.set_cons_succ] at x7
      have t7 := tape_set1 (j := 1) t6 (Nat.lt_of_le_of_ne hgg9.out (fun e => hne9.out e.symm)) (.int .i64 (lo + y))
      have gg7 := grown_app (ggo (ggo g45a.out (grown_of_below (bdrew W4) (some g))) g6) (setCell_grown w6 g9 1 (.int .i64 (lo + y))) (fun j hj => by cases hj; exact hg9e.out)
      clear k3 k3d k4 k5 f4 f5 hHeld
      go_wp2_with fail
      go_meet
      exact ⟨lo + y, rfl, _, x7, t7, gg7, by omega, by omega⟩
    exact AllReadyJ.nil
  exact AllReadyJ.nil
 case rest =>
  obtain ⟨hi, rfl, k5, x95, t55, g45, hle1, hle2⟩ := hcut
  obtain ⟨W5, rfl⟩ : ∃ W5 : World, W5 = wc := ⟨_, rfl⟩
  have o5 := Lib.hid (o4.out.tape g45 hz2.out)
  have r5 := Lib.hid (sees_grown_far r4.out f3.out g45 (fun j hj => by cases hj; exact hz2.out))
  have ow5 := row_tape ow4.out g45 hgl.out
  have hbw5 := Lib.hid (below_tape hbw4.out g45 (Nat.le_of_eq hgg.out) hbw4.out.size)
  obtain ⟨b0, o0, e0, hb0, hcell⟩ := SeesS.at_ (show SeesS W5 W5.heap.size (.slice A2 ws.length c2) ws from Sees.of_own ow5) (by omega)
  subst e0
  have x9l := x95.lt
  have hs : vS lo hi = true := by rw [vS_iff]; omega
  have hacc := acc_hon (v := v) (ws := ws) (lo := lo) (hi := hi) hw1 (by omega) hvv.out hs
  have hacv := accV_hon (v := v) (ws := ws) (lo := lo) (hi := hi) hw1
  replace hcell := Lib.hid hcell
  replace hs := Lib.hid hs
  replace hacc := Lib.hid hacc
  replace hacv := Lib.hid hacv
  replace x95 := Lib.hid x95
  clear hin2 x9d k3 k3d hg9l x9 o4 r4 ow4 ow5 hbw4 t55 g45 g45a k5
  go_wp2_with fail
  go_loopw [10, 11] (fun s t wr => ∃ i : Nat, i ≤ ws.length ∧ t = .int .i64 i ∧ s = .bool (insK ws lo hi i) ∧ Hid (Below W5.heap.size W5 wr)) (fun _ t _ => ws.length - (intOf t).toNat)
  case atStart => exact ⟨0, by omega, rfl, rfl, Below.refl _ _⟩
  case round =>
   obtain ⟨i, hi', rfl, rfl, hb⟩ := hrel
   by_cases hlt : i < ws.length
   · have i0 : (i : Int) < (ws.length : Int) := by omega
     have j0 : (0 : Int) ≤ (i : Int) := by omega
     have iw : IntKind.i64.wrap ((i : Int) + 1) = (i : Int) + 1 := by rw [IntKind.wrap_i64]; omega
     have hst : insK ws lo hi (i + 1) = (insK ws lo hi i && inS lo hi (ws.getD i (0, 0)).1 (ws.getD i (0, 0)).2) := rfl
     cases hm : insK ws lo hi i with
     | false =>
       rw [hm] at hst
       replace hm := Lib.hid hm
       replace hst := Lib.hid hst
       go_wp2_with fail
       go_quiet (fail)
       have hq := below_drewN (Below.refl wr.heap.size wr) nq
       go_wp2_with fail
       go_roundw
       case rel => exact ⟨i + 1, by omega, by go_num, by rw [hst.out]; rfl, bgo hb.out hq⟩
       case measure => simp [intOf]; omega
     | true =>
       rw [hm] at hst
       replace hm := Lib.hid hm
       have hget : ws[i]? = some (ws.getD i (0, 0)) := by rw [List.getD_eq_getElem?_getD, List.getElem?_eq_getElem hlt]; rfl
       obtain ⟨z0, z1⟩ := hcell.out i _ hget
       generalize (ws.getD i (0, 0)).1 = c' at *
       generalize (ws.getD i (0, 0)).2 = d at *
       have hri := Lib.hid (fun W => rinside_any lo hi c' d W)
       generalize inS lo hi c' d = q at *
       replace hst := Lib.hid hst
       have K : Hid (∀ W : World, Below wr.heap.size wr W → W.cell? ⟨g9, 0, none⟩ = some (.int .i64 lo) ∧ W.cell? ⟨g9, 1, none⟩ = some (.int .i64 hi) ∧ W.cell? ⟨b0, o0 + i * 2, none⟩ = some (.int .i64 c') ∧ W.cell? ⟨b0, o0 + i * 2 + 1, none⟩ = some (.int .i64 d)) := fun W hW =>
        have h9 := bgo hb.out hW
        ⟨(x95.out.below h9).cell 0, (x95.out.below h9).cell 1, (h9.cell (p := ⟨b0, o0 + i * 2, none⟩) hb0).trans z0, (h9.cell (p := ⟨b0, o0 + i * 2 + 1, none⟩) hb0).trans z1⟩
       obtain ⟨y0, y1, y2, y3⟩ := K.out wr (Below.refl _ _)
       clear z0 z1 hget
       go_wp2_with fail
       go_region_held3 (fun W' : World => W'.cell? ⟨g9, 0, none⟩ = some (.int .i64 lo) ∧ W'.cell? ⟨g9, 1, none⟩ = some (.int .i64 hi) ∧ W'.cell? ⟨b0, o0 + i * 2, none⟩ = some (.int .i64 c') ∧ W'.cell? ⟨b0, o0 + i * 2 + 1, none⟩ = some (.int .i64 d))
        (first | (with_reducible exact K.out _ hb6) | exact K.out _ (bdrew _) | exact K.out _ (Below.refl _ _) | (go_keep; done))
        (first | (go_at_call 43; refine (hri.out _).mono ?_; rintro e w6 ⟨rfl, hb6⟩; replace hb6 := bgo (bdrew wr) hb6))
       clear y0 y1 y2 y3
       go_wp2_with fail
       go_roundw
       case rel => exact ⟨i + 1, by omega, by go_num, by rw [hst.out]; rfl, bgo hb.out hb6⟩
       case measure => simp [intOf]; omega
   · obtain rfl : i = ws.length := by omega
     have i0 : ¬ (ws.length : Int) < (ws.length : Int) := by omega
     have hb := hb.out
     have hcl := Lib.hid (honL_len v ws ws.length)
     have hel : ∀ c ∈ honL v ws ws.length, c.2.1.length ≤ 1048576 ∧ c.2.2.2.2.length ≤ 1048576 := fun c hc => by
      unfold honL at hc
      rw [List.mem_map] at hc
      obtain ⟨k, -, rfl⟩ := hc
      exact ⟨by show (keyG _ _).length ≤ _; rw [keyG_len]; omega, by show (sigG _ _ _ _).length ≤ _; rw [sigG_len]; omega⟩
     have hcr0 : SeesR wr wr.heap.size (.slice A3 ws.length c3) 5 ws.length (certS (honL v ws ws.length)) := (o5.out.own.sees.below hb).more hb.size
     have hcr : SeesR wr wr.heap.size (.slice A3 ws.length c3) 5 (honL v ws ws.length).length (certS (honL v ws ws.length)) := by
      rw [hcl.out]
      exact (o5.out.own.sees.below hb).more hb.size
     obtain ⟨m, hm⟩ : ∃ m, ws.length = m + 1 := ⟨ws.length - 1, by omega⟩
     have hml : m < (honL v ws ws.length).length := by rw [hcl.out]; omega
     have hcm : (certT (honL v ws ws.length) m).2.1 = keyG (seedC v ws.length) 0 := by rw [honL_get v ws ws.length m (by omega)]; show keyG (seedC v (m + 1)) 0 = _; rw [← hm]
     obtain ⟨y0, y1⟩ := boxT2 (x95.out.below hb)
     have ha := cacc_any wr.heap.size (.slice A4 (keyG (seedC v 0) 0).length c4) (.slice A3 ws.length c3) (keyG (seedC v 0) 0) (honL v ws ws.length) lo hi wr (seesB_of r5.out (Nat.le_refl _) hb) hcr (Nat.le_refl _) hel (by rw [hcl.out]; omega)
     unfold AccP at ha
     rw [hacv.out, hacc.out] at ha
     have hcr2 := Lib.hid (fun W (hW : Below wr.heap.size wr W) => cert_at (hcr0.below hW) m hml)
     rw [hcm] at hcr2
     have hkl : (keyG (seedC v ws.length) 0).length = 32 := keyG_len _ _
     have i1 : (ws.length : Int) - 1 = (m : Int) := by omega
     have i2 : (0 : Int) ≤ (m : Int) := by omega
     have i3 : (m : Int) < (ws.length : Int) := by omega
     replace hm := Lib.hid hm
     have hbx := Lib.hid (bgo hbw5.out hb)
     generalize (honL v ws ws.length) = HL at *
     generalize keyG (seedC v ws.length) 0 = PK at *
     cases hq : insK ws lo hi ws.length with
     | false =>
       rw [hq] at ha
       simp only [Bool.false_eq_true, if_false] at ha
       rw [if_neg (show ¬ (25 : Int) = 0 by omega)] at ha
       replace ha := Lib.hid ha
       replace hq := Lib.hid hq
       clear hcr hcr0 hcr2 hcm hkl hel hml
       go_wp2_with fail
       refine ha.out.mono ?_
       rintro e w7 ⟨vp, rfl, hp, hb7⟩
       obtain ⟨Ap, cp, rfl, -, -⟩ := hp.mk_
       rw [show ([] : Bs).length = 0 from rfl]
       dsimp only
       go_wp2_with fail
       refine (hkn.out _).mono ?_
       rintro e w8 ⟨rfl, hb8⟩
       dsimp only
       go_wp2_with fail
       go_ret
       exact ⟨rfl, bgo hbx.out (bgo hb7 hb8)⟩
     | true =>
       rw [hq] at ha
       simp only [if_true] at ha
       replace ha := Lib.hid ha
       replace hq := Lib.hid hq
       clear hcr hcr0 hcm hel hkl
       go_wp2_with fail
       refine ha.out.mono ?_
       rintro e w7 ⟨vp, rfl, hp, hb7⟩
       obtain ⟨Ap, cp, rfl, -, -⟩ := hp.mk_
       dsimp only
       go_wp2_with fail
       refine (hkn.out _).mono ?_
       rintro e w8 ⟨rfl, hb8⟩
       obtain ⟨b1, o1, B1, d1, B2, d2, e1, hbl, -, q1, p1, -, -, -, -⟩ := hcr2.out w8 (bgo hb7 hb8)
       subst e1
       have hsame := Lib.hid (rsame_any w8.heap.size wr.heap.size (.slice Ap PK.length cp) (.slice B1 PK.length d1) PK PK w8 (seesB_of hp (Nat.le_refl _) hb8) p1)
       dsimp only
       go_wp2_with fail
       refine hsame.out.mono ?_
       rintro e w9 ⟨rfl, rfl⟩
       dsimp only
       go_wp2_with fail
       go_ret
       exact ⟨by simp, bgo hbx.out (bgo hb7 hb8)⟩
end Go.Proofs.YtjgepckncogdaaaGreat

/- Contracts of sectimecase.Signer, Flip of any bytes, sectimeref30.Same of equal delegations, delegate.Encode without a key, sectimelaw30.known. Conditions: those of each theorem. -/
import Derived.Test.YtkefbjpdpcmpnaaGreatRGrant
namespace Go.Proofs.YtkefbjpdpcmpnaaGreat
open Go Go.RowKit
set_option linter.unusedVariables false
set_option linter.unusedSimpArgs false
attribute [local go_sem ↓] Go.wp_at_zero Go.wp_at_succ
theorem rsame_eq (B B' : Nat) (u v : Value) (a : Bs) (w : World) (hu : SeesB w B u a) (hv : SeesB w B' v a) : Calls Tryz.prog 29 #[u, v] w fun e w' => e = .returned (.bool true) ∧ w' = w := by
  refine (rsame_any B B' u v a a w hu hv).mono ?_
  rintro e w' ⟨rfl, rfl⟩
  exact ⟨ret_bool (by simp), rfl⟩
def KSignP (ht : Int) (w : World) (e : Ending) (w' : World) : Prop :=
  ∃ v1 v2 sd pk, e = .returned (.tuple #[.agg #[v1, .int .i64 (ht % 2), .int .i64 0], v2]) ∧ SeesB w' w'.heap.size v1 sd ∧ sd.length = 32 ∧ SeesB w' w'.heap.size v2 pk ∧ pk = pubG sd (ht % 2) ∧ pk.length = 32 ∧ Below w.heap.size w w'
theorem pubG_len (sd : Bs) (ht : Int) (h : sd.length = 32) : (pubG sd (ht % 2)).length = 32 := by
  rw [pubG, if_pos (by omega)]
  exact keyG_len _ _
set_option maxRecDepth 100000 in
set_option maxHeartbeats 1000000 in
theorem ksigner_any (v ht : Int) (w : World) : Calls Tryz.prog 30 #[.int .i64 v, .int .i64 ht] w (KSignP ht w) := by
  have hkr := fun x W => (show Calls Tryz.prog 18 #[.int .i64 x, .int .i64 32] W (Shows (randK x 32) W) from krandom_any x 32 (by omega) W)
  have hwi := fun W => kwithin_any ht 2 (by omega) (by omega) W
  have b1 := balloc w (.cells #[.slice none 0 0, .int .i64 0, .int .i64 0] 39)
  have h4 := Box.new w 39 [.slice none 0 0, .int .i64 0, .int .i64 0]
  have hm0 := Int.emod_nonneg ht (show (2 : Int) ≠ 0 by omega)
  have hm1 := Int.emod_lt_of_pos ht (show (0 : Int) < 2 by omega)
  replace hkr := Lib.hid hkr
  replace hwi := Lib.hid hwi
  replace b1 := Lib.hid b1
  have hm0' := Lib.hid hm0
  have hm1' := Lib.hid hm1
  clear hm0 hm1
  go_enter Tryz.func30, Tryz.ntmps30
  go_wp2_with fail
  change Box (w.alloc (.cells #[.slice none 0 0, .int .i64 0, .int .i64 0] 39)) _ _ _ at h4
  generalize w.alloc (.cells #[.slice none 0 0, .int .i64 0, .int .i64 0] 39) = W1 at *
  generalize hg : w.heap.size = g4 at h4 ⊢
  replace hg := Lib.hid hg
  refine (hkr.out _ _).mono ?_
  rintro e w2 ⟨v2, rfl, t2, hb2, -⟩
  have hl := randK_len (wrap64 (v + 100)) 32 (by omega)
  obtain ⟨A2, c2, rfl, -, -⟩ := t2.mk_
  replace h4 := Lib.hid (h4.below hb2)
  replace b1 := Lib.hid (bgo b1.out hb2)
  replace hl := Lib.hid hl
  generalize randK _ 32 = sd at *
  dsimp only
  go_wp2_with fail
  refine (hwi.out _).mono ?_
  rintro e w3 ⟨rfl, rfl⟩
  generalize hH : ht % 2 = H at *
  replace hH := Lib.hid hH
  dsimp only
  have hal := balloc w3 (.cells #[.slice A2 sd.length c2, .int .i64 H, .int .i64 0] 39)
  have h6 := Box.new w3 39 [.slice A2 sd.length c2, .int .i64 H, .int .i64 0]
  change Box (w3.alloc (.cells #[.slice A2 sd.length c2, .int .i64 H, .int .i64 0] 39)) _ _ _ at h6
  go_upto_region 2 with (fail)
  have t6 := seesB_of t2 (Nat.le_refl _) hal
  replace h4 := Lib.hid (h4.out.below hal)
  replace b1 := Lib.hid (bgo b1.out hal)
  generalize w3.alloc (.cells #[.slice A2 sd.length c2, .int .i64 H, .int .i64 0] 39) = W6 at *
  generalize w3.heap.size = g6 at *
  have c0 := h6.cell 0
  have c1 := h6.cell 1
  simp only [List.getElem?_cons_zero, List.getElem?_cons_succ] at c0 c1
  have hpu := Lib.hid (rpublic_any W6.heap.size _ sd H W6 t6 (Nat.le_refl _))
  clear t2 hal hkr hwi
  go_wp2_with fail
  refine hpu.out.mono ?_
  rintro e w7 ⟨vp, rfl, tp, hb7⟩
  obtain ⟨Ap, cp, rfl, -, -⟩ := tp.mk_
  have h67 := h6.below hb7
  have h47 := h4.out.below hb7
  have t7 := seesB_of t6 (Nat.le_refl _) hb7
  have b7 := Lib.hid (bgo b1.out hb7)
  have hlp : Hid ((pubG sd H).length = 32) := by
    show _ = _
    have hl' : sd.length = 32 := hl.out
    rw [pubG, if_pos (by have := hm0'.out; have := hm1'.out; omega)]
    exact keyG_len _ _
  have hl' : Hid (sd.length = 32) := hl.out
  have hpg : Hid (pubG sd H = pubG sd H) := rfl
  generalize hpk : pubG sd H = pk at tp hlp ⊢
  replace hpk := Lib.hid hpk
  have d0 := h67.cell 0
  have d1 := h67.cell 1
  have d2 := h67.cell 2
  have y0 := h47.cell 0
  have y1 := h47.cell 1
  have y2 := h47.cell 2
  simp only [List.getElem?_cons_zero, List.getElem?_cons_succ] at d0 d1 d2 y0 y1 y2
  have f0 := h47.frozen 0
  have f1 := h47.frozen 1
  have f2 := h47.frozen 2
  have n47 := noBL3' (NoB.s none 0 0) (NoB.i 0) (NoB.i 0)
  have hgr := ggo (ggo (setCell_grown w7 g4 0 (.slice A2 sd.length c2)) (setCell_grown _ g4 1 (.int .i64 H))) (setCell_grown _ g4 2 (.int .i64 0))
  have hz : (((w7.setCell ⟨g4, 0, none⟩ (.slice A2 sd.length c2)).setCell ⟨g4, 1, none⟩ (.int .i64 H)).setCell ⟨g4, 2, none⟩ (.int .i64 0)).heap.size = w7.heap.size := by simp [World.setCell]
  have kt := t7.over (Nat.le_refl _) h47 n47 hgr
  have kp := tp.over (Nat.le_refl _) h47 n47 hgr
  have k4 := ((h47.set 0 (.slice A2 sd.length c2)).set 1 (.int .i64 H)).set 2 (.int .i64 0)
  simp only [List.set_cons_zero, List.set_cons_succ] at k4
  rw [← hz] at kt kp
  replace kt := Lib.hid kt
  replace kp := Lib.hid kp
  replace k4 := Lib.hid k4
  have kb := Lib.hid (below_set3 b7.out (Nat.le_of_eq hg.out) (.slice A2 sd.length c2) (.int .i64 H) (.int .i64 0))
  clear hl hgr hz h47 h67 h6 h4 tp t7 t6 c0 c1 b1 hpu
  dsimp only
  go_wp2_with fail
  clear d0 d1 d2 y0 y1 y2 f0 f1 f2
  generalize ((w7.setCell ⟨g4, 0, none⟩ (.slice A2 sd.length c2)).setCell ⟨g4, 1, none⟩ (.int .i64 H)).setCell ⟨g4, 2, none⟩ (.int .i64 0) = W9 at *
  have z0 : W9.cell? ⟨g4, 0, none⟩ = some (.slice A2 sd.length c2) := k4.out.cell 0
  have z1 : W9.cell? ⟨g4, 1, none⟩ = some (.int .i64 H) := k4.out.cell 1
  have z2 : W9.cell? ⟨g4, 2, none⟩ = some (.int .i64 0) := k4.out.cell 2
  refine bodyPost_ret (v := .tuple #[.agg #[.slice A2 sd.length c2, .int .i64 H, .int .i64 0], .slice Ap pk.length cp]) (by simp [results, Tryz.results30, go_sem, z0, z1, z2]) rfl ?_
  exact ⟨_, _, sd, pk, by rw [hH.out], kt.out, hl'.out, kp.out, by rw [hH.out]; exact hpk.out.symm, hlp.out, kb.out⟩
set_option maxRecDepth 100000 in
set_option maxHeartbeats 1000000 in
theorem kflip_none (u : Value) (a b : Int) (w : World) (hu : SeesB w w.heap.size u []) :
    Calls Tryz.prog 17 #[u, .int .i64 a, .int .i64 b] w (Gives [] w) := by
  obtain ⟨A, c, rfl, -, -⟩ := hu.mk_
  have hl3 := seesL_lit w 23 (show SeesAll w w.heap.size [.slice A (List.length ([] : Bs)) c] [[]] from ⟨hu, trivial⟩) (by simp [maxLen])
  have hj := rjoin_any _ _ _ _ hl3 (Nat.le_refl _) (by simp)
  rw [show ([[]] : List Bs).flatten = [] from rfl] at hj
  have hal := Lib.hid (balloc w (.cells #[.slice A (List.length ([] : Bs)) c] 23))
  replace hj := Lib.hid hj
  clear hu hl3
  go_enter Tryz.func17, Tryz.ntmps17
  go_wp2_with fail
  refine hj.out.mono ?_
  rintro e w1 ⟨v1, rfl, f1, hb1⟩
  obtain ⟨A1, c1, rfl, -, -⟩ := f1.sees.mk_
  dsimp only
  go_wp2_with fail
  go_ret
  exact ⟨_, rfl, f1.mono hal.out.size, bgo hal.out hb1⟩
theorem kflip_any (u : Value) (l : Bs) (a b : Int) (w : World) (hu : SeesB w w.heap.size u l) (hl : l.length ≤ 1048576) :
    Calls Tryz.prog 17 #[u, .int .i64 a, .int .i64 b] w fun e w' => ∃ l' : Bs, l'.length = l.length ∧ Gives l' w e w' := by
  cases l with
  | nil => exact (kflip_none u a b w hu).mono fun _ _ h => ⟨[], rfl, h⟩
  | cons x y => exact (kflip_some _ u (x :: y) a b w hu (Nat.le_refl _) (by simp) hl).mono fun _ _ h => ⟨_, flipK_len _ _ _, h⟩
set_option maxRecDepth 100000 in
set_option maxHeartbeats 1000000 in
theorem rdsame_any (u1 u2 u3 u4 : Value) (p s : Bs) (f t : Int) (w : World) (h1 : SeesB w w.heap.size u1 p) (h2 : SeesB w w.heap.size u2 s) (h3 : SeesB w w.heap.size u3 p) (h4 : SeesB w w.heap.size u4 s) :
    Calls Tryz.prog 26 #[.agg #[u1, .int .i64 f, .int .i64 t, u2], .agg #[u3, .int .i64 f, .int .i64 t, u4]] w (BoolPost true w) := by
  obtain ⟨A1, c1, rfl, -, -⟩ := h1.mk_
  obtain ⟨A2, c2, rfl, -, -⟩ := h2.mk_
  obtain ⟨A3, c3, rfl, -, -⟩ := h3.mk_
  obtain ⟨A4, c4, rfl, -, -⟩ := h4.mk_
  have hb := bgo (balloc w (.cells #[.slice A1 p.length c1, .int .i64 f, .int .i64 t, .slice A2 s.length c2] 37)) (balloc _ (.cells #[.slice A3 p.length c3, .int .i64 f, .int .i64 t, .slice A4 s.length c4] 37))
  have s1 := Lib.hid (rsame_eq _ _ _ _ p _ (seesB_of h1 (Nat.le_refl _) hb) (seesB_of h3 (Nat.le_refl _) hb))
  have s2 := Lib.hid (rsame_eq _ _ _ _ s _ (seesB_of h2 (Nat.le_refl _) hb) (seesB_of h4 (Nat.le_refl _) hb))
  replace hb := Lib.hid hb
  clear h1 h2 h3 h4
  go_enter Tryz.func26, Tryz.ntmps26
  go_wp2_with fail
  refine s1.out.mono ?_
  rintro e w4 ⟨rfl, hw4⟩
  obtain rfl := hw4.symm
  dsimp only
  go_wp2_with fail
  refine s2.out.mono ?_
  rintro e w5 ⟨rfl, hw5⟩
  obtain rfl := hw5.symm
  dsimp only
  go_wp2_with fail
  go_ret
  exact ⟨ret_bool (by simp), hb.out⟩
def EncNoKey (w : World) (e : Ending) (w' : World) : Prop := e = .returned (.tuple #[.slice none 0 0, .int .i64 5]) ∧ Below w.heap.size w w'
set_option maxRecDepth 100000 in
theorem dencode_nokey (f t : Int) (w : World) : Calls Tryz.prog 24 #[.agg #[.slice none 0 0, .int .i64 f, .int .i64 t, .slice none 0 0]] w (EncNoKey w) := by
  go_enter Tryz.func24, Tryz.ntmps24
  go_wp2_with fail
  go_returns
  exact ⟨rfl, by go_grown⟩
set_option maxRecDepth 100000 in
theorem dknown_any (w : World) : Calls Tryz.prog 22 #[] w (BoolPost true w) := by
  have hck := Lib.hid (fun W => dcheck_any 0 (.slice none 0 0) (.slice none 0 0) (.slice none 0 0) [] [] [] 0 0 W (SeesB.nil _ _) (SeesB.nil _ _) (SeesB.nil _ _) (Nat.zero_le _) (by simp))
  have hen := Lib.hid (fun W => dencode_nokey 1 2 W)
  go_enter Tryz.func22, Tryz.ntmps22
  go_wp2_with fail
  refine (hen.out _).mono ?_
  rintro e w1 ⟨rfl, hb1⟩
  dsimp only
  go_wp2_with fail
  refine (hck.out _).mono ?_
  rintro e w2 ⟨rfl, hb2⟩
  rw [show dcheckC [] [] 0 0 [] = 5 from rfl]
  dsimp only
  go_wp2_with fail
  go_ret
  exact ⟨rfl, bgo hb1 hb2⟩
end Go.Proofs.YtkefbjpdpcmpnaaGreat

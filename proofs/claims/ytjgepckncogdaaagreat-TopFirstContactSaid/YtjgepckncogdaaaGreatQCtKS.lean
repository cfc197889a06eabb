/- What a law leans on beyond the base: contracts, plain functions, walks. Conditions: those of each theorem. -/
import Derived.Test.YtjgepckncogdaaaGreatQKSignF
import Derived.Test.YtjgepckncogdaaaGreatQC1
set_option linter.unusedVariables false
set_option linter.unusedSimpArgs false
namespace Go.Proofs.YtjgepckncogdaaaGreat
open Go Go.RowKit
set_option linter.unusedVariables false
set_option linter.unusedSimpArgs false
attribute [local go_sem ↓] Go.wp_at_zero Go.wp_at_succ
def KSignWP (v ht : Int) (w : World) (e : Ending) (w' : World) : Prop :=
 ∃ v1 v2 sd pk, e = .returned (.tuple #[.agg #[v1, .int .i64 (ht % 2), .int .i64 0], v2]) ∧ SeesB w' w'.heap.size v1 sd ∧ From w.heap.size v1 ∧ sd = randK (wrap64 (v + 100)) 32 ∧ sd.length = 32 ∧ SeesB w' w'.heap.size v2 pk ∧ pk = pubG sd (ht % 2) ∧ pk.length = 32 ∧ From w.heap.size v2 ∧ Below w.heap.size w w'
set_option maxRecDepth 100000 in
set_option maxHeartbeats 1000000 in
theorem ksignerW_any (v ht : Int) (w : World) : Calls Tryz.prog 13 #[.int .i64 v, .int .i64 ht] w (KSignWP v ht w) := by
 have hkr := fun x W => (show Calls Tryz.prog 59 #[.int .i64 x, .int .i64 32] W (Shows (randK x 32) W) from krandom_any x 32 (by omega) W)
 have hwi := fun W => kwithin_any ht 2 (by omega) (by omega) W
 have b1 := balloc w (.cells #[.slice none 0 0, .int .i64 0, .int .i64 0] 27)
 have h4 := Box.new w 27 [.slice none 0 0, .int .i64 0, .int .i64 0]
 have hm0 := Int.emod_nonneg ht (show (2 : Int) ≠ 0 by omega)
 have hm1 := Int.emod_lt_of_pos ht (show (0 : Int) < 2 by omega)
 replace hkr := Lib.hid hkr
 replace hwi := Lib.hid hwi
 replace b1 := Lib.hid b1
 have hm0' := Lib.hid hm0
 have hm1' := Lib.hid hm1
 clear hm0 hm1
 go_enter Tryz.func13, Tryz.ntmps13
 go_wp2_with fail
 change Box (w.alloc (.cells #[.slice none 0 0, .int .i64 0, .int .i64 0] 27)) _ _ _ at h4
 generalize w.alloc (.cells #[.slice none 0 0, .int .i64 0, .int .i64 0] 27) = W1 at *
 generalize hg : w.heap.size = g4 at h4 ⊢
 replace hg := Lib.hid hg
 refine (hkr.out _ _).mono ?_
 rintro e w2 ⟨v2, rfl, t2, hb2, ft2⟩
 have hl := randK_len (wrap64 (v + 100)) 32 (by omega)
 obtain ⟨A2, c2, rfl, -, -⟩ := t2.mk_
 have fs := Lib.hid (ft2.mono b1.out.size)
 clear ft2
 replace h4 := Lib.hid (h4.below hb2)
 replace b1 := Lib.hid (bgo b1.out hb2)
 replace hl := Lib.hid hl
 generalize hSD : randK (wrap64 (v + 100)) 32 = sd at *
 replace hSD := Lib.hid hSD
 dsimp only
 go_wp2_with fail
 refine (hwi.out _).mono ?_
 rintro e w3 ⟨rfl, rfl⟩
 generalize hH : ht % 2 = H at *
 replace hH := Lib.hid hH
 dsimp only
 have hal := balloc w3 (.cells #[.slice A2 sd.length c2, .int .i64 H, .int .i64 0] 27)
 have h6 := Box.new w3 27 [.slice A2 sd.length c2, .int .i64 H, .int .i64 0]
 change Box (w3.alloc (.cells #[.slice A2 sd.length c2, .int .i64 H, .int .i64 0] 27)) _ _ _ at h6
 go_upto_region 2 with (fail)
 have t6 := seesB_of t2 (Nat.le_refl _) hal
 replace h4 := Lib.hid (h4.out.below hal)
 replace b1 := Lib.hid (bgo b1.out hal)
 generalize w3.alloc (.cells #[.slice A2 sd.length c2, .int .i64 H, .int .i64 0] 27) = W6 at *
 generalize w3.heap.size = g6 at *
 have c0 := h6.cell 0
 have c1 := h6.cell 1
 simp only [List.getElem?_cons_zero, List.getElem?_cons_succ] at c0 c1
 have hpu := Lib.hid (rpublicF_any W6.heap.size _ sd H W6 t6 (Nat.le_refl _) hl.out ⟨hm0'.out, by have := hm1'.out; omega⟩)
 clear t2 hal hkr hwi
 go_wp2_with fail
 refine hpu.out.mono ?_
 rintro e w7 ⟨vp, rfl, tp, fp, hb7⟩
 obtain ⟨Ap, cp, rfl, -, -⟩ := tp.mk_
 have fw := Lib.hid (fp.mono b1.out.size)
 clear fp
 have h67 := h6.below hb7
 have h47 := h4.out.below hb7
 have t7 := seesB_of t6 (Nat.le_refl _) hb7
 have b7 := Lib.hid (bgo b1.out hb7)
 have hlp : Hid ((pubG sd H).length = 32) := by
  show _ = _
  have hl' : sd.length = 32 := hl.out
  rw [pubG, if_pos (by have := hm0'.out; have := hm1'.out; omega)]
  exact keyG_len _ _
 have hl' : Hid (sd.length = 32) := hl.out
 have hpg : Hid (pubG sd H = pubG sd H) := rfl
 generalize hpk : pubG sd H = pk at tp hlp fw ⊢
 replace hpk := Lib.hid hpk
 have d0 := h67.cell 0
 have d1 := h67.cell 1
 have d2 := h67.cell 2
 have y0 := h47.cell 0
 have y1 := h47.cell 1
 have y2 := h47.cell 2
 simp only [List.getElem?_cons_zero, List.getElem?_cons_succ] at d0 d1 d2 y0 y1 y2
 have f0 := h47.frozen 0
 have f1 := h47.frozen 1
 have f2 := h47.frozen 2
 have n47 := noBL3' (NoB.s none 0 0) (NoB.i 0) (NoB.i 0)
 have hgr := ggo (ggo (setCell_grown w7 g4 0 (.slice A2 sd.length c2)) (setCell_grown _ g4 1 (.int .i64 H))) (setCell_grown _ g4 2 (.int .i64 0))
 have hz : (((w7.setCell ⟨g4, 0, none⟩ (.slice A2 sd.length c2)).setCell ⟨g4, 1, none⟩ (.int .i64 H)).setCell ⟨g4, 2, none⟩ (.int .i64 0)).heap.size = w7.heap.size := by simp [World.setCell]
 have kt := t7.over (Nat.le_refl _) h47 n47 hgr
 have kp := tp.over (Nat.le_refl _) h47 n47 hgr
 have k4 := ((h47.set 0 (.slice A2 sd.length c2)).set 1 (.int .i64 H)).set 2 (.int .i64 0)
 simp only [List.set_cons_zero, List.set_cons_succ] at k4
 rw [← hz] at kt kp
 replace kt := Lib.hid kt
 replace kp := Lib.hid kp
 replace k4 := Lib.hid k4
 have kb := Lib.hid (below_set3 b7.out (Nat.le_of_eq hg.out) (.slice A2 sd.length c2) (.int .i64 H) (.int .i64 0))
 clear hl hgr hz h47 h67 h6 h4 tp t7 t6 c0 c1 b1 hpu
 dsimp only
 go_wp2_with fail
 clear d0 d1 d2 y0 y1 y2 f0 f1 f2
 generalize ((w7.setCell ⟨g4, 0, none⟩ (.slice A2 sd.length c2)).setCell ⟨g4, 1, none⟩ (.int .i64 H)).setCell ⟨g4, 2, none⟩ (.int .i64 0) = W9 at *
 have z0 : W9.cell? ⟨g4, 0, none⟩ = some (.slice A2 sd.length c2) := k4.out.cell 0
 have z1 : W9.cell? ⟨g4, 1, none⟩ = some (.int .i64 H) := k4.out.cell 1
 have z2 : W9.cell? ⟨g4, 2, none⟩ = some (.int .i64 0) := k4.out.cell 2
 refine bodyPost_ret (v := .tuple #[.agg #[.slice A2 sd.length c2, .int .i64 H, .int .i64 0], .slice Ap pk.length cp]) (by simp [results, Tryz.results13, go_sem, z0, z1, z2]) rfl ?_
 exact ⟨_, _, sd, pk, by rw [hH.out], kt.out, fs.out, hSD.out.symm, hl'.out, kp.out, by rw [hH.out]; exact hpk.out.symm, hlp.out, fw.out, kb.out⟩
end Go.Proofs.YtjgepckncogdaaaGreat

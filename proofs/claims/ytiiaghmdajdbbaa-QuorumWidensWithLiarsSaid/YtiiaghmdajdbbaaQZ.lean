/- Contract of sectimelaw35.known: true. No conditions. -/
import Derived.Test.YtiiaghmdajdbbaaQY
import Derived.Test.YtiiaghmdajdbbaaQU
import Derived.Test.YtiiaghmdajdbbaaQN
namespace Go.Proofs.Ytiiaghmdajdbbaa
open Go Go.RowKit
set_option linter.unusedVariables false
set_option linter.unusedSimpArgs false
attribute [local go_sem ↓] Go.wp_at_zero Go.wp_at_succ
def kn : List Sp := [(8, 12), (11, 13), (14, 15)]
theorem kn_ok : okV kn = true := by decide
theorem kn_chk : qchkC kn 1 = 0 := by
  unfold qchkC
  rw [if_pos kn_ok, if_pos (by decide)]
theorem kn_cnt (t : Int) : cnt kn t = (if 8 ≤ t ∧ t ≤ 12 then 1 else 0) + (if 11 ≤ t ∧ t ≤ 13 then 1 else 0) + (if 14 ≤ t ∧ t ≤ 15 then 1 else 0) := by
  unfold kn
  rw [cnt_cons, cnt_cons, cnt_cons]
  show 0 + _ + _ + _ = _
  dsimp only
  omega
theorem kn_hull : IsHull kn 2 (some (11, 12)) := by
  refine ⟨?_, ?_, fun t ht => ?_⟩
  · show (2 : Int) ≤ (cnt kn 11 : Int)
    rw [kn_cnt]; decide
  · show (2 : Int) ≤ (cnt kn 12 : Int)
    rw [kn_cnt]; decide
  · rw [kn_cnt] at ht
    show 11 ≤ t ∧ t ≤ 12
    by_cases h1 : 8 ≤ t ∧ t ≤ 12
    · by_cases h2 : 11 ≤ t ∧ t ≤ 13
      · omega
      · rw [if_neg h2] at ht
        by_cases h3 : 14 ≤ t ∧ t ≤ 15
        · omega
        · rw [if_neg h3, if_pos h1] at ht; simp at ht
    · rw [if_neg h1] at ht
      by_cases h2 : 11 ≤ t ∧ t ≤ 13
      · rw [if_pos h2, if_neg (show ¬ (14 ≤ t ∧ t ≤ 15) by omega)] at ht; simp at ht
      · rw [if_neg h2] at ht
        by_cases h3 : 14 ≤ t ∧ t ≤ 15
        · rw [if_pos h3] at ht; simp at ht
        · rw [if_neg h3] at ht; simp at ht
theorem kn_o {o : Option Sp} (h : AgO kn 1 o) : o = some (11, 12) := by
  unfold AgO at h
  rw [if_pos kn_chk] at h
  exact IsHull.uniq h kn_hull
theorem kn_ag : agC kn 1 (some (11, 12)) = 0 := by
  unfold agC
  rw [if_pos kn_chk]; rfl
theorem kn_out : outX kn (some (11, 12)) = [2] := by decide
theorem kn_srt1 : srt [8, 11, 14] = [8, 11, 14] := (srt_uniq (List.Perm.refl _) (by decide)).symm
theorem kn_srt2 : srt [12, 13, 15] = [12, 13, 15] := (srt_uniq (List.Perm.refl _) (by decide)).symm
theorem kn_lo : tLo kn 1 = 11 := by
  show (srt [8, 11, 14]).getD (3 - 1 - 1) 0 = 11
  rw [kn_srt1]; rfl
theorem kn_hi : tHi kn 1 = 13 := by
  show (srt [12, 13, 15]).getD 1 0 = 13
  rw [kn_srt2]; rfl
theorem kn_tr : trC kn 1 = 0 := by
  unfold trC
  rw [if_pos kn_chk, kn_lo, kn_hi, if_pos (by decide)]
set_option maxRecDepth 100000 in
set_option maxHeartbeats 2000000 in
theorem known_any (w : World) : Calls Try.prog 11 #[] w (BoolPost true w) := by
  have hl : Hid (SeesS (w.alloc (.cells #[.int .i64 8, .int .i64 12, .int .i64 11, .int .i64 13, .int .i64 14, .int .i64 15] 28)) (w.heap.size + 1) (.slice (some ⟨w.heap.size, 0, none⟩) 3 3) kn) :=
    ⟨rfl, _, 3, rfl, Nat.le_refl _, by unfold maxLen; omega, fun _ => ⟨w.heap.size, 0, rfl, by omega, fun j u hj => by have := (Box.new w 28 (spV kn)).cell j; rw [Nat.zero_add]; exact this.trans hj⟩⟩
  have hal := Lib.hid (balloc w (.cells #[.int .i64 8, .int .i64 12, .int .i64 11, .int .i64 13, .int .i64 14, .int .i64 15] 28))
  have hz : Hid ((w.alloc (.cells #[.int .i64 8, .int .i64 12, .int .i64 11, .int .i64 13, .int .i64 14, .int .i64 15] 28)).heap.size = w.heap.size + 1) := World.size_alloc _ _
  go_enter Try.func11, Try.ntmps11
  go_upto_region 2 with (fail)
  generalize w.alloc (.cells #[.int .i64 8, .int .i64 12, .int .i64 11, .int .i64 13, .int .i64 14, .int .i64 15] 28) = W0 at *
  rw [← hz.out] at hl
  generalize hgg : w.heap.size = g0 at hl ⊢
  replace hgg := Lib.hid hgg
  have ha := Lib.hid (qagree_any W0.heap.size (.slice (some ⟨g0, 0, none⟩) 3 3) kn 1 W0 hl.out (Nat.le_refl _) (by decide))
  go_wp2_with fail
  refine ha.out.mono ?_
  rintro e w1 ⟨o, ho, rfl, hb1⟩
  obtain rfl := kn_o ho
  rw [kn_ag]
  dsimp only [Option.getD]
  have x2 := Box.new w1 28 [.int .i64 11, .int .i64 12]
  change Box (w1.alloc (.cells #[.int .i64 11, .int .i64 12] 28)) _ _ _ at x2
  have hb2 := Lib.hid (bgo hb1 (balloc w1 (.cells #[.int .i64 11, .int .i64 12] 28)))
  clear ha ho hb1
  go_upto_region 3 with (fail)
  generalize w1.alloc (.cells #[.int .i64 11, .int .i64 12] 28) = W2 at *
  generalize w1.heap.size = g2 at *
  have hou := Lib.hid (outside_any W0.heap.size (.slice (some ⟨g0, 0, none⟩) 3 3) kn 1 W2 (SeesS.below hl.out hb2.out) hb2.out.size (by decide))
  go_wp2_with fail
  refine hou.out.mono ?_
  rintro e w3 ⟨o, v, ho, rfl, hv, hb3⟩
  obtain rfl := kn_o ho
  rw [kn_out] at hv
  rw [kn_ag]
  obtain ⟨Av, cv, rfl, -, -⟩ := SeesI.mk_ hv
  replace x2 := x2.below hb3
  replace hb3 := Lib.hid (bgo hb2.out hb3)
  replace hv := Lib.hid hv
  have htr := Lib.hid (trim_any W0.heap.size (.slice (some ⟨g0, 0, none⟩) 3 3) kn 1 w3 (SeesS.below hl.out hb3.out) hb3.out.size (by decide))
  clear hou ho hb2
  dsimp only
  go_wp2_with fail
  refine htr.out.mono ?_
  rintro e w4 ⟨rfl, hb4⟩
  have tl : trLo kn 1 = 11 := by unfold trLo; rw [if_pos kn_tr, kn_lo]
  have th : trHi kn 1 = 13 := by unfold trHi; rw [if_pos kn_tr, kn_hi]
  rw [tl, th, kn_tr]
  have x6 := Box.new w4 28 [.int .i64 11, .int .i64 13]
  change Box (w4.alloc (.cells #[.int .i64 11, .int .i64 13] 28)) _ _ _ at x6
  have hal6 := balloc w4 (.cells #[.int .i64 11, .int .i64 13] 28)
  have hb5 := Lib.hid (bgo hb3.out (bgo hb4 hal6))
  replace x2 := x2.below (bgo hb4 hal6)
  replace hv := Lib.hid (Lit.below hv.out (bgo hb4 hal6))
  clear htr hb3 hb4 hal6 tl th
  go_upto_region 5 with (fail)
  generalize w4.alloc (.cells #[.int .i64 11, .int .i64 13] 28) = W5 at *
  generalize w4.heap.size = g6 at *
  have hal7 := balloc W5 (.cells #[.int .i64 2] 3)
  have hlit := Lit.new (W := W5) (G := W5.heap.size) 2 rfl
  have hsm := Lib.hid (sameI_true (W5.alloc (.cells #[.int .i64 2] 3)).heap.size _ _ [2] _ (Lit.sees (Lit.below hv.out hal7)) (Lit.sees hlit))
  obtain ⟨y0, y1⟩ := boxT2 x2
  obtain ⟨z0, z1⟩ := boxT2 (x6.below hal7)
  have hb6 := Lib.hid (bgo hb5.out hal7)
  clear hlit hal7
  go_wp2_with fail
  refine hsm.out.mono ?_
  rintro e w6 ⟨rfl, m, rfl⟩
  dsimp only
  go_wp2_with fail
  go_ret
  exact ⟨rfl, bgo (bgo hal.out hb6.out) (below_drewN (Below.refl _ _) _)⟩
end Go.Proofs.Ytiiaghmdajdbbaa

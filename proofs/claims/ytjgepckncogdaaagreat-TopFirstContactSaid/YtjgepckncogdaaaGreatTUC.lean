/- What a law leans on beyond the base: contracts, plain functions, walks. Conditions: those of each theorem. -/
import Derived.Test.YtjgepckncogdaaaGreatQUP
import Derived.Test.YtjgepckncogdaaaGreatTC1
set_option linter.unusedVariables false
set_option linter.unusedSimpArgs false
namespace Go.Proofs.YtjgepckncogdaaaGreat
open Go Go.RowKit
set_option linter.unusedVariables false
set_option linter.unusedSimpArgs false
attribute [local go_sem ↓] Go.wp_at_zero Go.wp_at_succ
set_option maxRecDepth 100000 in
set_option maxHeartbeats 1000000 in
theorem rmeet_any (a b c d : Int) (w : World) :
 Calls Tryz.prog 103 #[.agg #[.int .i64 a, .int .i64 b], .agg #[.int .i64 c, .int .i64 d]] w (MeetP a b c d w) := by
 have hva := Lib.hid (fun lo hi W => rvalid_any lo hi W)
 obtain ⟨x2, x3, x4, hb0⟩ := boxes3 w 24 24 24 [.int .i64 a, .int .i64 b] [.int .i64 c, .int .i64 d] [.int .i64 0, .int .i64 0]
 change Box (((w.alloc (.cells #[.int .i64 a, .int .i64 b] 24)).alloc (.cells #[.int .i64 c, .int .i64 d] 24)).alloc (.cells #[.int .i64 0, .int .i64 0] 24)) _ _ _ at x2 x3 x4
 change Below _ w (((w.alloc (.cells #[.int .i64 a, .int .i64 b] 24)).alloc (.cells #[.int .i64 c, .int .i64 d] 24)).alloc (.cells #[.int .i64 0, .int .i64 0] 24)) at hb0
 have hme : Hid (meB a b c d = (vS a b && (vS c d && decide (max a c ≤ min b d)))) := rfl
 go_enter Tryz.func103, Tryz.ntmps103
 go_upto_region 1 with (fail)
 generalize ((w.alloc (.cells #[.int .i64 a, .int .i64 b] 24)).alloc (.cells #[.int .i64 c, .int .i64 d] 24)).alloc (.cells #[.int .i64 0, .int .i64 0] 24) = W0 at *
 have hbw : Hid (Below w.heap.size w W0) := hb0
 generalize hg2 : w.heap.size = g2 at x2 x3 x4 ⊢
 generalize hg3 : g2 + 1 = g3 at x3 x4 ⊢
 generalize hg4 : g3 + 1 = g4 at x4 ⊢
 replace hg2 := Lib.hid hg2
 replace hg3 := Lib.hid hg3
 replace hg4 := Lib.hid hg4
 clear hb0
 obtain ⟨y0, y1⟩ := boxT2 x2
 go_wp2_with fail
 refine (hva.out _ _ _).mono ?_
 rintro e w1 ⟨rfl, hb1⟩
 replace x2 := x2.below hb1
 replace x3 := x3.below hb1
 replace x4 := x4.below hb1
 replace hbw := Lib.hid (bgo hbw.out hb1)
 clear y0 y1 hb1
 dsimp only
 cases hv1 : vS a b with
 | false =>
   rw [hv1] at hme
   replace hv1 := Lib.hid hv1
   obtain ⟨k0, k1, k2, k3⟩ := box2_cells x4
   have x7 := box_set2 x4 (.int .i64 0) (.int .i64 0)
   have hb9 := Lib.hid (below_set2 (g := g4) hbw.out (Nat.le_of_lt (by have := hg3.out; have := hg4.out; have := hg2.out; omega)) (.int .i64 0) (.int .i64 0))
   go_wp2_with fail
   clear k0 k1 k2 k3
   obtain ⟨k0, k1⟩ := boxT2 x7
   refine bodyPost_ret (v := .tuple #[.agg #[.int .i64 0, .int .i64 0], .bool false]) (by simp [results, Tryz.results103, go_sem, k0, k1]) rfl ?_
   exact meet_no (by rw [hme.out]; rfl) hb9.out
 | true =>
   rw [hv1] at hme
   replace hv1 := Lib.hid hv1
   obtain ⟨y0, y1⟩ := boxT2 x3
   go_wp2_with fail
   refine (hva.out _ _ _).mono ?_
   rintro e w2 ⟨rfl, hb1⟩
   replace x2 := x2.below hb1
   replace x3 := x3.below hb1
   replace x4 := x4.below hb1
   replace hbw := Lib.hid (bgo hbw.out hb1)
   clear y0 y1 hb1
   dsimp only
   cases hv2 : vS c d with
   | false =>
     rw [hv2] at hme
     replace hv2 := Lib.hid hv2
     obtain ⟨k0, k1, k2, k3⟩ := box2_cells x4
     have x7 := box_set2 x4 (.int .i64 0) (.int .i64 0)
     have hb9 := Lib.hid (below_set2 (g := g4) hbw.out (Nat.le_of_lt (by have := hg3.out; have := hg4.out; have := hg2.out; omega)) (.int .i64 0) (.int .i64 0))
     go_wp2_with fail
     clear k0 k1 k2 k3
     obtain ⟨k0, k1⟩ := boxT2 x7
     refine bodyPost_ret (v := .tuple #[.agg #[.int .i64 0, .int .i64 0], .bool false]) (by simp [results, Tryz.results103, go_sem, k0, k1]) rfl ?_
     exact meet_no (by rw [hme.out]; rfl) hb9.out
   | true =>
     rw [hv2] at hme
     replace hv2 := Lib.hid hv2
     have hme2 : Hid (meB a b c d = decide (max a c ≤ min b d)) := by show _ = _; rw [hme.out]; rfl
     obtain ⟨y0, y1⟩ := boxT2 x2
     obtain ⟨z0, z1⟩ := boxT2 x3
     have hM : Hid (max a c = max a c) := rfl
     have hN : Hid (min b d = min b d) := rfl
     by_cases h3 : max a c ≤ min b d
     · have h4 : ¬ (min b d < max a c) := by omega
       have hq : Hid (decide (max a c ≤ min b d) = true) := decide_eq_true h3
       obtain ⟨k0, k1, k2, k3⟩ := box2_cells x4
       have x7 := box_set2 x4 (.int .i64 (max a c)) (.int .i64 (min b d))
       have hb9 := Lib.hid (below_set2 (g := g4) hbw.out (Nat.le_of_lt (by have := hg3.out; have := hg4.out; have := hg2.out; omega)) (.int .i64 (max a c)) (.int .i64 (min b d)))
       go_wp2_with fail
       clear k0 k1 k2 k3 y0 y1 z0 z1
       obtain ⟨k0, k1⟩ := boxT2 x7
       refine bodyPost_ret (v := .tuple #[.agg #[.int .i64 (max a c), .int .i64 (min b d)], .bool true]) (by simp [results, Tryz.results103, go_sem, k0, k1]) rfl ?_
       exact meet_yes (by rw [hme2.out, hq.out]) rfl rfl hb9.out
     · have h4 : min b d < max a c := by omega
       have hq : Hid (decide (max a c ≤ min b d) = false) := decide_eq_false h3
       obtain ⟨k0, k1, k2, k3⟩ := box2_cells x4
       have x7 := box_set2 x4 (.int .i64 0) (.int .i64 0)
       have hb9 := Lib.hid (below_set2 (g := g4) hbw.out (Nat.le_of_lt (by have := hg3.out; have := hg4.out; have := hg2.out; omega)) (.int .i64 0) (.int .i64 0))
       go_wp2_with fail
       clear k0 k1 k2 k3 y0 y1 z0 z1
       obtain ⟨k0, k1⟩ := boxT2 x7
       refine bodyPost_ret (v := .tuple #[.agg #[.int .i64 0, .int .i64 0], .bool false]) (by simp [results, Tryz.results103, go_sem, k0, k1]) rfl ?_
       exact meet_no (by rw [hme2.out, hq.out]) hb9.out
end Go.Proofs.YtjgepckncogdaaaGreat

/- Contracts of sectimeref11.Meet, sectimeref11.Inside. No conditions. -/
import Derived.Test.YtiiaghmdajdbbaaQB
namespace Go.Proofs.Ytiiaghmdajdbbaa
open Go.RowKit
set_option linter.unusedVariables false
set_option linter.unusedSimpArgs false
attribute [local go_sem ↓] Go.wp_at_zero Go.wp_at_succ
set_option maxRecDepth 100000 in
set_option maxHeartbeats 1000000 in
theorem rmeet_any (a b c d : Int) (w : World) :
    Calls Try.prog 16 #[.agg #[.int .i64 a, .int .i64 b], .agg #[.int .i64 c, .int .i64 d]] w (MeetP a b c d w) := by
  have hva := Lib.hid (fun lo hi W => rvalid_any lo hi W)
  obtain ⟨x2, x3, x4, hb0⟩ := boxes3 w 28 28 28 [.int .i64 a, .int .i64 b] [.int .i64 c, .int .i64 d] [.int .i64 0, .int .i64 0]
  change Box (((w.alloc (.cells #[.int .i64 a, .int .i64 b] 28)).alloc (.cells #[.int .i64 c, .int .i64 d] 28)).alloc (.cells #[.int .i64 0, .int .i64 0] 28)) _ _ _ at x2 x3 x4
  change Below _ w (((w.alloc (.cells #[.int .i64 a, .int .i64 b] 28)).alloc (.cells #[.int .i64 c, .int .i64 d] 28)).alloc (.cells #[.int .i64 0, .int .i64 0] 28)) at hb0
  have hme : Hid (meB a b c d = (vS a b && (vS c d && decide (max a c ≤ min b d)))) := rfl
  go_enter Try.func16, Try.ntmps16
  go_upto_region 1 with (fail)
  generalize ((w.alloc (.cells #[.int .i64 a, .int .i64 b] 28)).alloc (.cells #[.int .i64 c, .int .i64 d] 28)).alloc (.cells #[.int .i64 0, .int .i64 0] 28) = W0 at *
  have hbw : Hid (Below w.heap.size w W0) := hb0
  generalize hg2 : w.heap.size = g2 at x2 x3 x4 ⊢
  generalize hg3 : g2 + 1 = g3 at x3 x4 ⊢
  generalize hg4 : g3 + 1 = g4 at x4 ⊢
  replace hg2 := Lib.hid hg2
  replace hg3 := Lib.hid hg3
  replace hg4 := Lib.hid hg4
  clear hb0
  obtain ⟨y0, y1⟩ := boxT2 x2
  go_wp2_with fail
  refine (hva.out _ _ _).mono ?_
  rintro e w1 ⟨rfl, hb1⟩
  replace x2 := x2.below hb1
  replace x3 := x3.below hb1
  replace x4 := x4.below hb1
  replace hbw := Lib.hid (bgo hbw.out hb1)
  clear y0 y1 hb1
  dsimp only
  cases hv1 : vS a b with
  | false =>
    rw [hv1] at hme
    replace hv1 := Lib.hid hv1
    obtain ⟨k0, k1, k2, k3⟩ := box2_cells x4
    have x7 := box_set2 x4 (.int .i64 0) (.int .i64 0)
    have hb9 := Lib.hid (below_set2 (g := g4) hbw.out (Nat.le_of_lt (by have := hg3.out; have := hg4.out; have := hg2.out; omega)) (.int .i64 0) (.int .i64 0))
    go_wp2_with fail
    clear k0 k1 k2 k3
    obtain ⟨k0, k1⟩ := boxT2 x7
    refine bodyPost_ret (v := .tuple #[.agg #[.int .i64 0, .int .i64 0], .bool false]) (by simp [results, Try.results16, go_sem, k0, k1]) rfl ?_
    exact meet_done (by rw [hme.out]; rfl) hb9.out
  | true =>
    rw [hv1] at hme
    replace hv1 := Lib.hid hv1
    obtain ⟨y0, y1⟩ := boxT2 x3
    go_wp2_with fail
    refine (hva.out _ _ _).mono ?_
    rintro e w2 ⟨rfl, hb1⟩
    replace x2 := x2.below hb1
    replace x3 := x3.below hb1
    replace x4 := x4.below hb1
    replace hbw := Lib.hid (bgo hbw.out hb1)
    clear y0 y1 hb1
    dsimp only
    cases hv2 : vS c d with
    | false =>
      rw [hv2] at hme
      replace hv2 := Lib.hid hv2
      obtain ⟨k0, k1, k2, k3⟩ := box2_cells x4
      have x7 := box_set2 x4 (.int .i64 0) (.int .i64 0)
      have hb9 := Lib.hid (below_set2 (g := g4) hbw.out (Nat.le_of_lt (by have := hg3.out; have := hg4.out; have := hg2.out; omega)) (.int .i64 0) (.int .i64 0))
      go_wp2_with fail
      clear k0 k1 k2 k3
      obtain ⟨k0, k1⟩ := boxT2 x7
      refine bodyPost_ret (v := .tuple #[.agg #[.int .i64 0, .int .i64 0], .bool false]) (by simp [results, Try.results16, go_sem, k0, k1]) rfl ?_
      exact meet_done (by rw [hme.out]; rfl) hb9.out
    | true =>
      rw [hv2] at hme
      replace hv2 := Lib.hid hv2
      have hme2 : Hid (meB a b c d = decide (max a c ≤ min b d)) := by show _ = _; rw [hme.out]; rfl
      obtain ⟨y0, y1⟩ := boxT2 x2
      obtain ⟨z0, z1⟩ := boxT2 x3
      have hcases : (a < c ∨ ¬ a < c) ∧ (d < b ∨ ¬ d < b) := ⟨Decidable.em _, Decidable.em _⟩
      obtain ⟨h1 | h1, h2 | h2⟩ := hcases
      · have hM : Hid (max a c = c) := by show _ = _; omega
        have hN : Hid (min b d = d) := by show _ = _; omega
        rw [hM.out, hN.out] at hme2
        by_cases h3 : c ≤ d
        · have hq : Hid (decide (c ≤ d) = true) := decide_eq_true h3
          obtain ⟨k0, k1, k2, k3⟩ := box2_cells x4
          have x7 := box_set2 x4 (.int .i64 c) (.int .i64 d)
          have hb9 := Lib.hid (below_set2 (g := g4) hbw.out (Nat.le_of_lt (by have := hg3.out; have := hg4.out; have := hg2.out; omega)) (.int .i64 c) (.int .i64 d))
          go_wp2_with fail
          clear k0 k1 k2 k3 y0 y1 z0 z1
          obtain ⟨k0, k1⟩ := boxT2 x7
          refine bodyPost_ret (v := .tuple #[.agg #[.int .i64 c, .int .i64 d], .bool true]) (by simp [results, Try.results16, go_sem, k0, k1]) rfl ?_
          exact meet_done (by rw [hme2.out, hq.out]) hb9.out
        · have hq : Hid (decide (c ≤ d) = false) := decide_eq_false h3
          obtain ⟨k0, k1, k2, k3⟩ := box2_cells x4
          have x7 := box_set2 x4 (.int .i64 0) (.int .i64 0)
          have hb9 := Lib.hid (below_set2 (g := g4) hbw.out (Nat.le_of_lt (by have := hg3.out; have := hg4.out; have := hg2.out; omega)) (.int .i64 0) (.int .i64 0))
          go_wp2_with fail
          clear k0 k1 k2 k3 y0 y1 z0 z1
          obtain ⟨k0, k1⟩ := boxT2 x7
          refine bodyPost_ret (v := .tuple #[.agg #[.int .i64 0, .int .i64 0], .bool false]) (by simp [results, Try.results16, go_sem, k0, k1]) rfl ?_
          exact meet_done (by rw [hme2.out, hq.out]) hb9.out
      · have hM : Hid (max a c = c) := by show _ = _; omega
        have hN : Hid (min b d = b) := by show _ = _; omega
        rw [hM.out, hN.out] at hme2
        by_cases h3 : c ≤ b
        · have hq : Hid (decide (c ≤ b) = true) := decide_eq_true h3
          obtain ⟨k0, k1, k2, k3⟩ := box2_cells x4
          have x7 := box_set2 x4 (.int .i64 c) (.int .i64 b)
          have hb9 := Lib.hid (below_set2 (g := g4) hbw.out (Nat.le_of_lt (by have := hg3.out; have := hg4.out; have := hg2.out; omega)) (.int .i64 c) (.int .i64 b))
          go_wp2_with fail
          clear k0 k1 k2 k3 y0 y1 z0 z1
          obtain ⟨k0, k1⟩ := boxT2 x7
          refine bodyPost_ret (v := .tuple #[.agg #[.int .i64 c, .int .i64 b], .bool true]) (by simp [results, Try.results16, go_sem, k0, k1]) rfl ?_
          exact meet_done (by rw [hme2.out, hq.out]) hb9.out
        · have hq : Hid (decide (c ≤ b) = false) := decide_eq_false h3
          obtain ⟨k0, k1, k2, k3⟩ := box2_cells x4
          have x7 := box_set2 x4 (.int .i64 0) (.int .i64 0)
          have hb9 := Lib.hid (below_set2 (g := g4) hbw.out (Nat.le_of_lt (by have := hg3.out; have := hg4.out; have := hg2.out; omega)) (.int .i64 0) (.int .i64 0))
          go_wp2_with fail
          clear k0 k1 k2 k3 y0 y1 z0 z1
          obtain ⟨k0, k1⟩ := boxT2 x7
          refine bodyPost_ret (v := .tuple #[.agg #[.int .i64 0, .int .i64 0], .bool false]) (by simp [results, Try.results16, go_sem, k0, k1]) rfl ?_
          exact meet_done (by rw [hme2.out, hq.out]) hb9.out
      · have hM : Hid (max a c = a) := by show _ = _; omega
        have hN : Hid (min b d = d) := by show _ = _; omega
        rw [hM.out, hN.out] at hme2
        by_cases h3 : a ≤ d
        · have hq : Hid (decide (a ≤ d) = true) := decide_eq_true h3
          obtain ⟨k0, k1, k2, k3⟩ := box2_cells x4
          have x7 := box_set2 x4 (.int .i64 a) (.int .i64 d)
          have hb9 := Lib.hid (below_set2 (g := g4) hbw.out (Nat.le_of_lt (by have := hg3.out; have := hg4.out; have := hg2.out; omega)) (.int .i64 a) (.int .i64 d))
          go_wp2_with fail
          clear k0 k1 k2 k3 y0 y1 z0 z1
          obtain ⟨k0, k1⟩ := boxT2 x7
          refine bodyPost_ret (v := .tuple #[.agg #[.int .i64 a, .int .i64 d], .bool true]) (by simp [results, Try.results16, go_sem, k0, k1]) rfl ?_
          exact meet_done (by rw [hme2.out, hq.out]) hb9.out
        · have hq : Hid (decide (a ≤ d) = false) := decide_eq_false h3
          obtain ⟨k0, k1, k2, k3⟩ := box2_cells x4
          have x7 := box_set2 x4 (.int .i64 0) (.int .i64 0)
          have hb9 := Lib.hid (below_set2 (g := g4) hbw.out (Nat.le_of_lt (by have := hg3.out; have := hg4.out; have := hg2.out; omega)) (.int .i64 0) (.int .i64 0))
          go_wp2_with fail
          clear k0 k1 k2 k3 y0 y1 z0 z1
          obtain ⟨k0, k1⟩ := boxT2 x7
          refine bodyPost_ret (v := .tuple #[.agg #[.int .i64 0, .int .i64 0], .bool false]) (by simp [results, Try.results16, go_sem, k0, k1]) rfl ?_
          exact meet_done (by rw [hme2.out, hq.out]) hb9.out
      · have hM : Hid (max a c = a) := by show _ = _; omega
        have hN : Hid (min b d = b) := by show _ = _; omega
        rw [hM.out, hN.out] at hme2
        by_cases h3 : a ≤ b
        · have hq : Hid (decide (a ≤ b) = true) := decide_eq_true h3
          obtain ⟨k0, k1, k2, k3⟩ := box2_cells x4
          have x7 := box_set2 x4 (.int .i64 a) (.int .i64 b)
          have hb9 := Lib.hid (below_set2 (g := g4) hbw.out (Nat.le_of_lt (by have := hg3.out; have := hg4.out; have := hg2.out; omega)) (.int .i64 a) (.int .i64 b))
          go_wp2_with fail
          clear k0 k1 k2 k3 y0 y1 z0 z1
          obtain ⟨k0, k1⟩ := boxT2 x7
          refine bodyPost_ret (v := .tuple #[.agg #[.int .i64 a, .int .i64 b], .bool true]) (by simp [results, Try.results16, go_sem, k0, k1]) rfl ?_
          exact meet_done (by rw [hme2.out, hq.out]) hb9.out
        · have hq : Hid (decide (a ≤ b) = false) := decide_eq_false h3
          obtain ⟨k0, k1, k2, k3⟩ := box2_cells x4
          have x7 := box_set2 x4 (.int .i64 0) (.int .i64 0)
          have hb9 := Lib.hid (below_set2 (g := g4) hbw.out (Nat.le_of_lt (by have := hg3.out; have := hg4.out; have := hg2.out; omega)) (.int .i64 0) (.int .i64 0))
          go_wp2_with fail
          clear k0 k1 k2 k3 y0 y1 z0 z1
          obtain ⟨k0, k1⟩ := boxT2 x7
          refine bodyPost_ret (v := .tuple #[.agg #[.int .i64 0, .int .i64 0], .bool false]) (by simp [results, Try.results16, go_sem, k0, k1]) rfl ?_
          exact meet_done (by rw [hme2.out, hq.out]) hb9.out
/-- A span inside of another one. -/
def inS (lo hi f t : Int) : Bool := vS lo hi && (vS f t && (decide (f ≤ lo) && decide (hi ≤ t)))
set_option maxRecDepth 100000 in
theorem rinside_any (lo hi f t : Int) (w : World) :
    Calls Try.prog 12 #[.agg #[.int .i64 lo, .int .i64 hi], .agg #[.int .i64 f, .int .i64 t]] w (BoolPost (inS lo hi f t) w) := by
  have hin : Hid (inS lo hi f t = (vS lo hi && (vS f t && (decide (f ≤ lo) && decide (hi ≤ t))))) := rfl
  have hva := Lib.hid (fun W => rvalid_any lo hi W)
  have hvb := Lib.hid (fun W => rvalid_any f t W)
  have hal := Lib.hid (bgo (balloc w (.cells #[.int .i64 lo, .int .i64 hi] 28)) (balloc _ (.cells #[.int .i64 f, .int .i64 t] 28)))
  have x2 := (Box.new w 28 [.int .i64 lo, .int .i64 hi]).below (balloc _ (.cells #[.int .i64 f, .int .i64 t] 28))
  have x3 := Box.new (w.alloc (.cells #[.int .i64 lo, .int .i64 hi] 28)) 28 [.int .i64 f, .int .i64 t]
  rw [World.size_alloc] at x3
  change Box ((w.alloc (.cells #[.int .i64 lo, .int .i64 hi] 28)).alloc (.cells #[.int .i64 f, .int .i64 t] 28)) _ _ _ at x2 x3
  go_enter Try.func12, Try.ntmps12
  go_upto_region 1 with (fail)
  generalize (w.alloc (.cells #[.int .i64 lo, .int .i64 hi] 28)).alloc (.cells #[.int .i64 f, .int .i64 t] 28) = W0 at *
  generalize hgg : w.heap.size = g2 at x2 x3 ⊢
  replace hgg := Lib.hid hgg
  obtain ⟨y0, y1⟩ := boxT2 x2
  go_wp2_with fail
  refine (hva.out _).mono ?_
  rintro e w1 ⟨rfl, hb1⟩
  replace x2 := x2.below hb1
  replace x3 := x3.below hb1
  have hbw := Lib.hid (bgo hal.out hb1)
  clear y0 y1 hb1 hva hal
  dsimp only
  cases hv : vS lo hi with
  | false =>
    rw [hv] at hin
    replace hv := Lib.hid hv
    clear x2 x3
    go_wp2_with fail
    go_ret
    exact ⟨ret_bool (by rw [hin.out]; rfl), hbw.out⟩
  | true =>
    rw [hv] at hin
    replace hv := Lib.hid hv
    obtain ⟨z0, z1⟩ := boxT2 x3
    go_wp2_with fail
    refine (hvb.out _).mono ?_
    rintro e w2 ⟨rfl, hb2⟩
    replace x2 := x2.below hb2
    replace x3 := x3.below hb2
    replace hbw := Lib.hid (bgo hbw.out hb2)
    clear z0 z1 hb2 hvb
    dsimp only
    cases hv2 : vS f t with
    | false =>
      rw [hv2] at hin
      replace hv2 := Lib.hid hv2
      clear x2 x3
      go_wp2_with fail
      go_ret
      exact ⟨ret_bool (by rw [hin.out]; rfl), hbw.out⟩
    | true =>
      rw [hv2] at hin
      replace hv2 := Lib.hid hv2
      obtain ⟨y0, y1⟩ := boxT2 x2
      obtain ⟨z0, z1⟩ := boxT2 x3
      by_cases h1 : f ≤ lo
      · by_cases h2 : hi ≤ t
        · have hr : Hid (inS lo hi f t = true) := by show _ = _; rw [hin.out]; simp [h1, h2]
          go_wp2_with fail
          go_ret
          exact ⟨ret_bool hr.out.symm, hbw.out⟩
        · have hr : Hid (inS lo hi f t = false) := by show _ = _; rw [hin.out]; simp [h1, h2]
          go_wp2_with fail
          go_ret
          exact ⟨ret_bool hr.out.symm, hbw.out⟩
      · have hr : Hid (inS lo hi f t = false) := by show _ = _; rw [hin.out]; simp [h1]
        go_wp2_with fail
        go_ret
        exact ⟨ret_bool hr.out.symm, hbw.out⟩
end Go.Proofs.Ytiiaghmdajdbbaa

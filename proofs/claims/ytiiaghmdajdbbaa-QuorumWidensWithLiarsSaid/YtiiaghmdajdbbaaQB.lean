/- Contract of interval.Meet. No conditions. -/
import Derived.Test.YtiiaghmdajdbbaaQA
namespace Go.Proofs.Ytiiaghmdajdbbaa
open Go.RowKit
set_option linter.unusedVariables false
set_option linter.unusedSimpArgs false
attribute [local go_sem ↓] Go.wp_at_zero Go.wp_at_succ
/-- Two spans have an instant in common. -/
def meB (a b c d : Int) : Bool := vS a b && (vS c d && decide (max a c ≤ min b d))
def MeetP (a b c d : Int) (w : World) (e : Ending) (w' : World) : Prop := ∃ x y : Int, e = .returned (.tuple #[.agg #[.int .i64 x, .int .i64 y], .bool (meB a b c d)]) ∧ Below w.heap.size w w'
theorem meet_done {a b c d x y : Int} {w w' : World} {q : Bool} (h : meB a b c d = q) (hb : Below w.heap.size w w') : MeetP a b c d w (.returned (.tuple #[.agg #[.int .i64 x, .int .i64 y], .bool q])) w' := by
  subst h; exact ⟨x, y, rfl, hb⟩
theorem vS_mn {a b c d m n : Int} (hm : max a c = m) (hn : min b d = n) (p : vS a b = true) (q : vS c d = true) : vS m n = decide (m ≤ n) := by
  unfold vS at *
  simp at p q
  rw [Bool.eq_iff_iff]
  simp
  omega
theorem boxes3 (w : World) (T1 T2 T3 : TypeId) (x y z : List Value) :
    Box (((w.alloc (.cells x.toArray T1)).alloc (.cells y.toArray T2)).alloc (.cells z.toArray T3)) w.heap.size T1 x ∧ Box (((w.alloc (.cells x.toArray T1)).alloc (.cells y.toArray T2)).alloc (.cells z.toArray T3)) (w.heap.size + 1) T2 y ∧
    Box (((w.alloc (.cells x.toArray T1)).alloc (.cells y.toArray T2)).alloc (.cells z.toArray T3)) (w.heap.size + 1 + 1) T3 z ∧ Below w.heap.size w (((w.alloc (.cells x.toArray T1)).alloc (.cells y.toArray T2)).alloc (.cells z.toArray T3)) := by
  refine ⟨((Box.new w T1 x).below (balloc _ _)).below (balloc _ _), ?_, ?_, bgo (bgo (balloc _ _) (balloc _ _)) (balloc _ _)⟩
  · have := (Box.new (w.alloc (.cells x.toArray T1)) T2 y).below (balloc _ (.cells z.toArray T3))
    rwa [World.size_alloc] at this
  · have := Box.new ((w.alloc (.cells x.toArray T1)).alloc (.cells y.toArray T2)) T3 z
    rwa [World.size_alloc, World.size_alloc] at this
set_option maxRecDepth 100000 in
set_option maxHeartbeats 1000000 in
theorem meet_any (a b c d : Int) (w : World) :
    Calls Try.prog 30 #[.agg #[.int .i64 a, .int .i64 b], .agg #[.int .i64 c, .int .i64 d]] w (MeetP a b c d w) := by
  have hva := Lib.hid (fun lo hi W => valid_any lo hi W)
  obtain ⟨x2, x3, x4, hb0⟩ := boxes3 w 28 28 28 [.int .i64 a, .int .i64 b] [.int .i64 c, .int .i64 d] [.int .i64 0, .int .i64 0]
  change Box (((w.alloc (.cells #[.int .i64 a, .int .i64 b] 28)).alloc (.cells #[.int .i64 c, .int .i64 d] 28)).alloc (.cells #[.int .i64 0, .int .i64 0] 28)) _ _ _ at x2 x3 x4
  change Below _ w (((w.alloc (.cells #[.int .i64 a, .int .i64 b] 28)).alloc (.cells #[.int .i64 c, .int .i64 d] 28)).alloc (.cells #[.int .i64 0, .int .i64 0] 28)) at hb0
  have x5 := fun x y => Box.new (((w.alloc (.cells #[.int .i64 a, .int .i64 b] 28)).alloc (.cells #[.int .i64 c, .int .i64 d] 28)).alloc (.cells #[.int .i64 0, .int .i64 0] 28)) 28 [.int .i64 x, .int .i64 y]
  go_enter Try.func30, Try.ntmps30
  go_upto_region 1 with (fail)
  generalize ((w.alloc (.cells #[.int .i64 a, .int .i64 b] 28)).alloc (.cells #[.int .i64 c, .int .i64 d] 28)).alloc (.cells #[.int .i64 0, .int .i64 0] 28) = W0 at *
  generalize hg2 : w.heap.size = g2 at *
  generalize hg3 : g2 + 1 = g3 at *
  generalize hg4 : g3 + 1 = g4 at *
  obtain ⟨y0, y1⟩ := boxT2 x2
  obtain ⟨z0, z1⟩ := boxT2 x3
  replace hg2 := Lib.hid hg2
  replace hg3 := Lib.hid hg3
  replace hg4 := Lib.hid hg4
  have hcases : (a < c ∨ ¬ a < c) ∧ (d < b ∨ ¬ d < b) := ⟨Decidable.em _, Decidable.em _⟩
  replace x5 := Lib.hid x5
  obtain ⟨h1 | h1, h2 | h2⟩ := hcases
  · have x6 := x5.out c d
    go_upto_region 2 with (fail)
    have hbw : Hid (Below w.heap.size w (W0.alloc (.cells #[.int .i64 c, .int .i64 d] 28))) := bgo (hg2.out ▸ hb0) (balloc W0 (.cells #[.int .i64 c, .int .i64 d] 28))
    replace x2 := x2.below (balloc W0 (.cells #[.int .i64 c, .int .i64 d] 28))
    replace x3 := x3.below (balloc W0 (.cells #[.int .i64 c, .int .i64 d] 28))
    replace x4 := x4.below (balloc W0 (.cells #[.int .i64 c, .int .i64 d] 28))
    have hM : Hid (max a c = c) := by show _ = _; omega
    have hN : Hid (min b d = d) := by show _ = _; omega
    have hme : Hid (meB a b c d = (vS a b && (vS c d && decide (c ≤ d)))) := by show _ = _; unfold meB; rw [hM.out, hN.out]
    have hvo : Hid (vS a b = true → vS c d = true → vS c d = decide (c ≤ d)) := vS_mn hM.out hN.out
    clear x5 y0 y1 z0 z1 hM hN h1 h2
    change Box (W0.alloc (.cells #[.int .i64 c, .int .i64 d] 28)) _ _ _ at x6
    generalize W0.alloc (.cells #[.int .i64 c, .int .i64 d] 28) = W1 at *
    generalize W0.heap.size = g5 at *
    obtain ⟨y0, y1⟩ := boxT2 x2
    go_wp2_with fail
    refine (hva.out _ _ _).mono ?_
    rintro e w1 ⟨rfl, hb1⟩
    replace x3 := x3.below hb1
    replace x4 := x4.below hb1
    replace x6 := x6.below hb1
    replace hbw := Lib.hid (bgo hbw.out hb1)
    clear y0 y1 hb1 x2
    dsimp only
    cases hv1 : vS a b with
    | false =>
      rw [hv1] at hme
      replace hv1 := Lib.hid hv1
      obtain ⟨k0, k1, k2, k3⟩ := box2_cells x4
      have x7 := box_set2 x4 (.int .i64 0) (.int .i64 0)
      have hb9 := Lib.hid (below_set2 (g := g4) hbw.out (Nat.le_of_lt (by have := hg3.out; have := hg4.out; have := hg2.out; omega)) (.int .i64 0) (.int .i64 0))
      go_wp2_with fail
      clear k0 k1 k2 k3
      obtain ⟨k0, k1⟩ := boxT2 x7
      refine bodyPost_ret (v := .tuple #[.agg #[.int .i64 0, .int .i64 0], .bool false]) (by simp [results, Try.results30, go_sem, k0, k1]) rfl ?_
      exact meet_done (by rw [hme.out]; rfl) hb9.out
    | true =>
      rw [hv1] at hme
      replace hv1 := Lib.hid hv1
      obtain ⟨y0, y1⟩ := boxT2 x3
      go_wp2_with fail
      refine (hva.out _ _ _).mono ?_
      rintro e w2 ⟨rfl, hb1⟩
      replace x4 := x4.below hb1
      replace x6 := x6.below hb1
      replace hbw := Lib.hid (bgo hbw.out hb1)
      clear y0 y1 hb1 x3
      dsimp only
      cases hv2 : vS c d with
      | false =>
        rw [hv2] at hme
        replace hv2 := Lib.hid hv2
        obtain ⟨k0, k1, k2, k3⟩ := box2_cells x4
        have x7 := box_set2 x4 (.int .i64 0) (.int .i64 0)
        have hb9 := Lib.hid (below_set2 (g := g4) hbw.out (Nat.le_of_lt (by have := hg3.out; have := hg4.out; have := hg2.out; omega)) (.int .i64 0) (.int .i64 0))
        go_wp2_with fail
        clear k0 k1 k2 k3
        obtain ⟨k0, k1⟩ := boxT2 x7
        refine bodyPost_ret (v := .tuple #[.agg #[.int .i64 0, .int .i64 0], .bool false]) (by simp [results, Try.results30, go_sem, k0, k1]) rfl ?_
        exact meet_done (by rw [hme.out]; rfl) hb9.out
      | true =>
        rw [hv2] at hme
        replace hv2 := Lib.hid hv2
        obtain ⟨y0, y1⟩ := boxT2 x6
        go_wp2_with fail
        refine (hva.out _ _ _).mono ?_
        rintro e w3 ⟨rfl, hb1⟩
        replace x4 := x4.below hb1
        replace x6 := x6.below hb1
        replace hbw := Lib.hid (bgo hbw.out hb1)
        clear y0 y1 hb1
        dsimp only
        rw [hvo.out hv1.out hv2.out]
        have hme2 : Hid (meB a b c d = decide (c ≤ d)) := by show _ = _; rw [hme.out]; rfl
        generalize decide (c ≤ d) = q at *
        cases q with
        | false =>
          obtain ⟨k0, k1, k2, k3⟩ := box2_cells x4
          have x7 := box_set2 x4 (.int .i64 0) (.int .i64 0)
          have hb9 := Lib.hid (below_set2 (g := g4) hbw.out (Nat.le_of_lt (by have := hg3.out; have := hg4.out; have := hg2.out; omega)) (.int .i64 0) (.int .i64 0))
          go_wp2_with fail
          clear k0 k1 k2 k3
          obtain ⟨k0, k1⟩ := boxT2 x7
          refine bodyPost_ret (v := .tuple #[.agg #[.int .i64 0, .int .i64 0], .bool false]) (by simp [results, Try.results30, go_sem, k0, k1]) rfl ?_
          exact meet_done (by exact hme2.out) hb9.out
        | true =>
          obtain ⟨k0, k1, k2, k3⟩ := box2_cells x4
          obtain ⟨y0, y1⟩ := boxT2 x6
          have x7 := box_set2 x4 (.int .i64 c) (.int .i64 d)
          have hb9 := Lib.hid (below_set2 (g := g4) hbw.out (Nat.le_of_lt (by have := hg3.out; have := hg4.out; have := hg2.out; omega)) (.int .i64 c) (.int .i64 d))
          go_wp2_with fail
          clear k0 k1 k2 k3 y0 y1
          obtain ⟨k0, k1⟩ := boxT2 x7
          refine bodyPost_ret (v := .tuple #[.agg #[.int .i64 c, .int .i64 d], .bool true]) (by simp [results, Try.results30, go_sem, k0, k1]) rfl ?_
          exact meet_done hme2.out hb9.out
  · have x6 := x5.out c b
    go_upto_region 2 with (fail)
    have hbw : Hid (Below w.heap.size w (W0.alloc (.cells #[.int .i64 c, .int .i64 b] 28))) := bgo (hg2.out ▸ hb0) (balloc W0 (.cells #[.int .i64 c, .int .i64 b] 28))
    replace x2 := x2.below (balloc W0 (.cells #[.int .i64 c, .int .i64 b] 28))
    replace x3 := x3.below (balloc W0 (.cells #[.int .i64 c, .int .i64 b] 28))
    replace x4 := x4.below (balloc W0 (.cells #[.int .i64 c, .int .i64 b] 28))
    have hM : Hid (max a c = c) := by show _ = _; omega
    have hN : Hid (min b d = b) := by show _ = _; omega
    have hme : Hid (meB a b c d = (vS a b && (vS c d && decide (c ≤ b)))) := by show _ = _; unfold meB; rw [hM.out, hN.out]
    have hvo : Hid (vS a b = true → vS c d = true → vS c b = decide (c ≤ b)) := vS_mn hM.out hN.out
    clear x5 y0 y1 z0 z1 hM hN h1 h2
    change Box (W0.alloc (.cells #[.int .i64 c, .int .i64 b] 28)) _ _ _ at x6
    generalize W0.alloc (.cells #[.int .i64 c, .int .i64 b] 28) = W1 at *
    generalize W0.heap.size = g5 at *
    obtain ⟨y0, y1⟩ := boxT2 x2
    go_wp2_with fail
    refine (hva.out _ _ _).mono ?_
    rintro e w1 ⟨rfl, hb1⟩
    replace x3 := x3.below hb1
    replace x4 := x4.below hb1
    replace x6 := x6.below hb1
    replace hbw := Lib.hid (bgo hbw.out hb1)
    clear y0 y1 hb1 x2
    dsimp only
    cases hv1 : vS a b with
    | false =>
      rw [hv1] at hme
      replace hv1 := Lib.hid hv1
      obtain ⟨k0, k1, k2, k3⟩ := box2_cells x4
      have x7 := box_set2 x4 (.int .i64 0) (.int .i64 0)
      have hb9 := Lib.hid (below_set2 (g := g4) hbw.out (Nat.le_of_lt (by have := hg3.out; have := hg4.out; have := hg2.out; omega)) (.int .i64 0) (.int .i64 0))
      go_wp2_with fail
      clear k0 k1 k2 k3
      obtain ⟨k0, k1⟩ := boxT2 x7
      refine bodyPost_ret (v := .tuple #[.agg #[.int .i64 0, .int .i64 0], .bool false]) (by simp [results, Try.results30, go_sem, k0, k1]) rfl ?_
      exact meet_done (by rw [hme.out]; rfl) hb9.out
    | true =>
      rw [hv1] at hme
      replace hv1 := Lib.hid hv1
      obtain ⟨y0, y1⟩ := boxT2 x3
      go_wp2_with fail
      refine (hva.out _ _ _).mono ?_
      rintro e w2 ⟨rfl, hb1⟩
      replace x4 := x4.below hb1
      replace x6 := x6.below hb1
      replace hbw := Lib.hid (bgo hbw.out hb1)
      clear y0 y1 hb1 x3
      dsimp only
      cases hv2 : vS c d with
      | false =>
        rw [hv2] at hme
        replace hv2 := Lib.hid hv2
        obtain ⟨k0, k1, k2, k3⟩ := box2_cells x4
        have x7 := box_set2 x4 (.int .i64 0) (.int .i64 0)
        have hb9 := Lib.hid (below_set2 (g := g4) hbw.out (Nat.le_of_lt (by have := hg3.out; have := hg4.out; have := hg2.out; omega)) (.int .i64 0) (.int .i64 0))
        go_wp2_with fail
        clear k0 k1 k2 k3
        obtain ⟨k0, k1⟩ := boxT2 x7
        refine bodyPost_ret (v := .tuple #[.agg #[.int .i64 0, .int .i64 0], .bool false]) (by simp [results, Try.results30, go_sem, k0, k1]) rfl ?_
        exact meet_done (by rw [hme.out]; rfl) hb9.out
      | true =>
        rw [hv2] at hme
        replace hv2 := Lib.hid hv2
        obtain ⟨y0, y1⟩ := boxT2 x6
        go_wp2_with fail
        refine (hva.out _ _ _).mono ?_
        rintro e w3 ⟨rfl, hb1⟩
        replace x4 := x4.below hb1
        replace x6 := x6.below hb1
        replace hbw := Lib.hid (bgo hbw.out hb1)
        clear y0 y1 hb1
        dsimp only
        rw [hvo.out hv1.out hv2.out]
        have hme2 : Hid (meB a b c d = decide (c ≤ b)) := by show _ = _; rw [hme.out]; rfl
        generalize decide (c ≤ b) = q at *
        cases q with
        | false =>
          obtain ⟨k0, k1, k2, k3⟩ := box2_cells x4
          have x7 := box_set2 x4 (.int .i64 0) (.int .i64 0)
          have hb9 := Lib.hid (below_set2 (g := g4) hbw.out (Nat.le_of_lt (by have := hg3.out; have := hg4.out; have := hg2.out; omega)) (.int .i64 0) (.int .i64 0))
          go_wp2_with fail
          clear k0 k1 k2 k3
          obtain ⟨k0, k1⟩ := boxT2 x7
          refine bodyPost_ret (v := .tuple #[.agg #[.int .i64 0, .int .i64 0], .bool false]) (by simp [results, Try.results30, go_sem, k0, k1]) rfl ?_
          exact meet_done (by exact hme2.out) hb9.out
        | true =>
          obtain ⟨k0, k1, k2, k3⟩ := box2_cells x4
          obtain ⟨y0, y1⟩ := boxT2 x6
          have x7 := box_set2 x4 (.int .i64 c) (.int .i64 b)
          have hb9 := Lib.hid (below_set2 (g := g4) hbw.out (Nat.le_of_lt (by have := hg3.out; have := hg4.out; have := hg2.out; omega)) (.int .i64 c) (.int .i64 b))
          go_wp2_with fail
          clear k0 k1 k2 k3 y0 y1
          obtain ⟨k0, k1⟩ := boxT2 x7
          refine bodyPost_ret (v := .tuple #[.agg #[.int .i64 c, .int .i64 b], .bool true]) (by simp [results, Try.results30, go_sem, k0, k1]) rfl ?_
          exact meet_done hme2.out hb9.out
  · have x6 := x5.out a d
    go_upto_region 2 with (fail)
    have hbw : Hid (Below w.heap.size w (W0.alloc (.cells #[.int .i64 a, .int .i64 d] 28))) := bgo (hg2.out ▸ hb0) (balloc W0 (.cells #[.int .i64 a, .int .i64 d] 28))
    replace x2 := x2.below (balloc W0 (.cells #[.int .i64 a, .int .i64 d] 28))
    replace x3 := x3.below (balloc W0 (.cells #[.int .i64 a, .int .i64 d] 28))
    replace x4 := x4.below (balloc W0 (.cells #[.int .i64 a, .int .i64 d] 28))
    have hM : Hid (max a c = a) := by show _ = _; omega
    have hN : Hid (min b d = d) := by show _ = _; omega
    have hme : Hid (meB a b c d = (vS a b && (vS c d && decide (a ≤ d)))) := by show _ = _; unfold meB; rw [hM.out, hN.out]
    have hvo : Hid (vS a b = true → vS c d = true → vS a d = decide (a ≤ d)) := vS_mn hM.out hN.out
    clear x5 y0 y1 z0 z1 hM hN h1 h2
    change Box (W0.alloc (.cells #[.int .i64 a, .int .i64 d] 28)) _ _ _ at x6
    generalize W0.alloc (.cells #[.int .i64 a, .int .i64 d] 28) = W1 at *
    generalize W0.heap.size = g5 at *
    obtain ⟨y0, y1⟩ := boxT2 x2
    go_wp2_with fail
    refine (hva.out _ _ _).mono ?_
    rintro e w1 ⟨rfl, hb1⟩
    replace x3 := x3.below hb1
    replace x4 := x4.below hb1
    replace x6 := x6.below hb1
    replace hbw := Lib.hid (bgo hbw.out hb1)
    clear y0 y1 hb1 x2
    dsimp only
    cases hv1 : vS a b with
    | false =>
      rw [hv1] at hme
      replace hv1 := Lib.hid hv1
      obtain ⟨k0, k1, k2, k3⟩ := box2_cells x4
      have x7 := box_set2 x4 (.int .i64 0) (.int .i64 0)
      have hb9 := Lib.hid (below_set2 (g := g4) hbw.out (Nat.le_of_lt (by have := hg3.out; have := hg4.out; have := hg2.out; omega)) (.int .i64 0) (.int .i64 0))
      go_wp2_with fail
      clear k0 k1 k2 k3
      obtain ⟨k0, k1⟩ := boxT2 x7
      refine bodyPost_ret (v := .tuple #[.agg #[.int .i64 0, .int .i64 0], .bool false]) (by simp [results, Try.results30, go_sem, k0, k1]) rfl ?_
      exact meet_done (by rw [hme.out]; rfl) hb9.out
    | true =>
      rw [hv1] at hme
      replace hv1 := Lib.hid hv1
      obtain ⟨y0, y1⟩ := boxT2 x3
      go_wp2_with fail
      refine (hva.out _ _ _).mono ?_
      rintro e w2 ⟨rfl, hb1⟩
      replace x4 := x4.below hb1
      replace x6 := x6.below hb1
      replace hbw := Lib.hid (bgo hbw.out hb1)
      clear y0 y1 hb1 x3
      dsimp only
      cases hv2 : vS c d with
      | false =>
        rw [hv2] at hme
        replace hv2 := Lib.hid hv2
        obtain ⟨k0, k1, k2, k3⟩ := box2_cells x4
        have x7 := box_set2 x4 (.int .i64 0) (.int .i64 0)
        have hb9 := Lib.hid (below_set2 (g := g4) hbw.out (Nat.le_of_lt (by have := hg3.out; have := hg4.out; have := hg2.out; omega)) (.int .i64 0) (.int .i64 0))
        go_wp2_with fail
        clear k0 k1 k2 k3
        obtain ⟨k0, k1⟩ := boxT2 x7
        refine bodyPost_ret (v := .tuple #[.agg #[.int .i64 0, .int .i64 0], .bool false]) (by simp [results, Try.results30, go_sem, k0, k1]) rfl ?_
        exact meet_done (by rw [hme.out]; rfl) hb9.out
      | true =>
        rw [hv2] at hme
        replace hv2 := Lib.hid hv2
        obtain ⟨y0, y1⟩ := boxT2 x6
        go_wp2_with fail
        refine (hva.out _ _ _).mono ?_
        rintro e w3 ⟨rfl, hb1⟩
        replace x4 := x4.below hb1
        replace x6 := x6.below hb1
        replace hbw := Lib.hid (bgo hbw.out hb1)
        clear y0 y1 hb1
        dsimp only
        rw [hvo.out hv1.out hv2.out]
        have hme2 : Hid (meB a b c d = decide (a ≤ d)) := by show _ = _; rw [hme.out]; rfl
        generalize decide (a ≤ d) = q at *
        cases q with
        | false =>
          obtain ⟨k0, k1, k2, k3⟩ := box2_cells x4
          have x7 := box_set2 x4 (.int .i64 0) (.int .i64 0)
          have hb9 := Lib.hid (below_set2 (g := g4) hbw.out (Nat.le_of_lt (by have := hg3.out; have := hg4.out; have := hg2.out; omega)) (.int .i64 0) (.int .i64 0))
          go_wp2_with fail
          clear k0 k1 k2 k3
          obtain ⟨k0, k1⟩ := boxT2 x7
          refine bodyPost_ret (v := .tuple #[.agg #[.int .i64 0, .int .i64 0], .bool false]) (by simp [results, Try.results30, go_sem, k0, k1]) rfl ?_
          exact meet_done (by exact hme2.out) hb9.out
        | true =>
          obtain ⟨k0, k1, k2, k3⟩ := box2_cells x4
          obtain ⟨y0, y1⟩ := boxT2 x6
          have x7 := box_set2 x4 (.int .i64 a) (.int .i64 d)
          have hb9 := Lib.hid (below_set2 (g := g4) hbw.out (Nat.le_of_lt (by have := hg3.out; have := hg4.out; have := hg2.out; omega)) (.int .i64 a) (.int .i64 d))
          go_wp2_with fail
          clear k0 k1 k2 k3 y0 y1
          obtain ⟨k0, k1⟩ := boxT2 x7
          refine bodyPost_ret (v := .tuple #[.agg #[.int .i64 a, .int .i64 d], .bool true]) (by simp [results, Try.results30, go_sem, k0, k1]) rfl ?_
          exact meet_done hme2.out hb9.out
  · have x6 := x5.out a b
    go_upto_region 2 with (fail)
    have hbw : Hid (Below w.heap.size w (W0.alloc (.cells #[.int .i64 a, .int .i64 b] 28))) := bgo (hg2.out ▸ hb0) (balloc W0 (.cells #[.int .i64 a, .int .i64 b] 28))
    replace x2 := x2.below (balloc W0 (.cells #[.int .i64 a, .int .i64 b] 28))
    replace x3 := x3.below (balloc W0 (.cells #[.int .i64 a, .int .i64 b] 28))
    replace x4 := x4.below (balloc W0 (.cells #[.int .i64 a, .int .i64 b] 28))
    have hM : Hid (max a c = a) := by show _ = _; omega
    have hN : Hid (min b d = b) := by show _ = _; omega
    have hme : Hid (meB a b c d = (vS a b && (vS c d && decide (a ≤ b)))) := by show _ = _; unfold meB; rw [hM.out, hN.out]
    have hvo : Hid (vS a b = true → vS c d = true → vS a b = decide (a ≤ b)) := vS_mn hM.out hN.out
    clear x5 y0 y1 z0 z1 hM hN h1 h2
    change Box (W0.alloc (.cells #[.int .i64 a, .int .i64 b] 28)) _ _ _ at x6
    generalize W0.alloc (.cells #[.int .i64 a, .int .i64 b] 28) = W1 at *
    generalize W0.heap.size = g5 at *
    obtain ⟨y0, y1⟩ := boxT2 x2
    go_wp2_with fail
    refine (hva.out _ _ _).mono ?_
    rintro e w1 ⟨rfl, hb1⟩
    replace x3 := x3.below hb1
    replace x4 := x4.below hb1
    replace x6 := x6.below hb1
    replace hbw := Lib.hid (bgo hbw.out hb1)
    clear y0 y1 hb1 x2
    dsimp only
    cases hv1 : vS a b with
    | false =>
      rw [hv1] at hme
      replace hv1 := Lib.hid hv1
      obtain ⟨k0, k1, k2, k3⟩ := box2_cells x4
      have x7 := box_set2 x4 (.int .i64 0) (.int .i64 0)
      have hb9 := Lib.hid (below_set2 (g := g4) hbw.out (Nat.le_of_lt (by have := hg3.out; have := hg4.out; have := hg2.out; omega)) (.int .i64 0) (.int .i64 0))
      go_wp2_with fail
      clear k0 k1 k2 k3
      obtain ⟨k0, k1⟩ := boxT2 x7
      refine bodyPost_ret (v := .tuple #[.agg #[.int .i64 0, .int .i64 0], .bool false]) (by simp [results, Try.results30, go_sem, k0, k1]) rfl ?_
      exact meet_done (by rw [hme.out]; rfl) hb9.out
    | true =>
      rw [hv1] at hme
      replace hv1 := Lib.hid hv1
      obtain ⟨y0, y1⟩ := boxT2 x3
      go_wp2_with fail
      refine (hva.out _ _ _).mono ?_
      rintro e w2 ⟨rfl, hb1⟩
      replace x4 := x4.below hb1
      replace x6 := x6.below hb1
      replace hbw := Lib.hid (bgo hbw.out hb1)
      clear y0 y1 hb1 x3
      dsimp only
      cases hv2 : vS c d with
      | false =>
        rw [hv2] at hme
        replace hv2 := Lib.hid hv2
        obtain ⟨k0, k1, k2, k3⟩ := box2_cells x4
        have x7 := box_set2 x4 (.int .i64 0) (.int .i64 0)
        have hb9 := Lib.hid (below_set2 (g := g4) hbw.out (Nat.le_of_lt (by have := hg3.out; have := hg4.out; have := hg2.out; omega)) (.int .i64 0) (.int .i64 0))
        go_wp2_with fail
        clear k0 k1 k2 k3
        obtain ⟨k0, k1⟩ := boxT2 x7
        refine bodyPost_ret (v := .tuple #[.agg #[.int .i64 0, .int .i64 0], .bool false]) (by simp [results, Try.results30, go_sem, k0, k1]) rfl ?_
        exact meet_done (by rw [hme.out]; rfl) hb9.out
      | true =>
        rw [hv2] at hme
        replace hv2 := Lib.hid hv2
        obtain ⟨y0, y1⟩ := boxT2 x6
        go_wp2_with fail
        refine (hva.out _ _ _).mono ?_
        rintro e w3 ⟨rfl, hb1⟩
        replace x4 := x4.below hb1
        replace x6 := x6.below hb1
        replace hbw := Lib.hid (bgo hbw.out hb1)
        clear y0 y1 hb1
        dsimp only
        rw [hvo.out hv1.out hv2.out]
        have hme2 : Hid (meB a b c d = decide (a ≤ b)) := by show _ = _; rw [hme.out]; rfl
        generalize decide (a ≤ b) = q at *
        cases q with
        | false =>
          obtain ⟨k0, k1, k2, k3⟩ := box2_cells x4
          have x7 := box_set2 x4 (.int .i64 0) (.int .i64 0)
          have hb9 := Lib.hid (below_set2 (g := g4) hbw.out (Nat.le_of_lt (by have := hg3.out; have := hg4.out; have := hg2.out; omega)) (.int .i64 0) (.int .i64 0))
          go_wp2_with fail
          clear k0 k1 k2 k3
          obtain ⟨k0, k1⟩ := boxT2 x7
          refine bodyPost_ret (v := .tuple #[.agg #[.int .i64 0, .int .i64 0], .bool false]) (by simp [results, Try.results30, go_sem, k0, k1]) rfl ?_
          exact meet_done (by exact hme2.out) hb9.out
        | true =>
          obtain ⟨k0, k1, k2, k3⟩ := box2_cells x4
          obtain ⟨y0, y1⟩ := boxT2 x6
          have x7 := box_set2 x4 (.int .i64 a) (.int .i64 b)
          have hb9 := Lib.hid (below_set2 (g := g4) hbw.out (Nat.le_of_lt (by have := hg3.out; have := hg4.out; have := hg2.out; omega)) (.int .i64 a) (.int .i64 b))
          go_wp2_with fail
          clear k0 k1 k2 k3 y0 y1
          obtain ⟨k0, k1⟩ := boxT2 x7
          refine bodyPost_ret (v := .tuple #[.agg #[.int .i64 a, .int .i64 b], .bool true]) (by simp [results, Try.results30, go_sem, k0, k1]) rfl ?_
          exact meet_done hme2.out hb9.out
end Go.Proofs.Ytiiaghmdajdbbaa

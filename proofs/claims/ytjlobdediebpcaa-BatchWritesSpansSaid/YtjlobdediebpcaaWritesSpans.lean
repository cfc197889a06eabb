/- Contract of sectimelaw29.BatchWritesSpans: it returns true. Conditions: the bounds are 64-bit numbers, as the language has it. -/
import Derived.Test.YtjlobdediebpcaaUnspan
import Derived.OpenShut
namespace Go.Proofs.Ytjlobdediebpcaa
open Go.RowKit
set_option linter.unusedVariables false
set_option linter.unusedSimpArgs false
attribute [local go_sem ↓] Go.wp_at_zero Go.wp_at_succ
theorem un_put (x : Int) (h0 : -9223372036854775808 ≤ x) (h1 : x ≤ 9223372036854775807) : wrap64 ((getB (putB 8 (u64 x)) : Nat) : Int) = x := by
  rw [getB_val, valB_put, show 256 ^ 8 = 18446744073709551616 from by decide]
  have := u64_lt x
  rw [Nat.mod_mod, Nat.mod_eq_of_lt this]
  unfold u64 wrap64
  omega
theorem un_lo (lo hi : Int) (h0 : -9223372036854775808 ≤ lo) (h1 : lo ≤ 9223372036854775807) : unLo (spanB lo hi) = lo := by
  unfold unLo spanB
  rw [List.take_append_of_le_length (by rw [putB_len]; omega), List.take_of_length_le (by rw [putB_len]; omega)]
  exact un_put lo h0 h1
theorem un_hi (lo hi : Int) (h0 : -9223372036854775808 ≤ hi) (h1 : hi ≤ 9223372036854775807) : unHi (spanB lo hi) = hi := by
  unfold unHi spanB
  rw [List.drop_append_of_le_length (by rw [putB_len]; omega), List.drop_of_length_le (by rw [putB_len]; omega), List.nil_append]
  exact un_put hi h0 h1
theorem un_span (lo hi : Int) (h : vS lo hi = true) : unC (spanB lo hi) = 0 ∧ unA (spanB lo hi) = lo ∧ unB (spanB lo hi) = hi := by
  have h2 := h
  unfold vS at h2
  simp only [decide_eq_true_eq] at h2
  have e1 := un_lo lo hi (by omega) (by omega)
  have e2 := un_hi lo hi (by omega) (by omega)
  have e3 : unOk (spanB lo hi) = true := by
    unfold unOk
    rw [e1, e2, h]
    simp [spanB, putB_len]
  unfold unC unA unB
  rw [e3, e1, e2]
  simp
set_option maxRecDepth 100000 in
theorem known_any (w : World) : Calls Try.prog 11 #[] w fun e w' => e = .returned (.bool true) ∧ Below w.heap.size w w' := by
  have e1 : spanC (-1) 258 = 0 := by decide
  have e2 : spanL (-1) 258 = [255, 255, 255, 255, 255, 255, 255, 255, 0, 0, 0, 0, 0, 0, 1, 2] := by decide
  go_enter Try.func11, Try.ntmps11
  go_wp2_with fail
  refine (span_any (-1) 258 _).mono ?_
  rintro e w1 ⟨v, rfl, h1, hb1⟩
  rw [e1]
  rw [e2] at h1
  obtain ⟨A, c, rfl, -, -⟩ := h1.sees.mk_
  dsimp only
  go_wp2_with fail
  have h2 : OwnB (w1.alloc (.cells #[.int .u8 255, .int .u8 255, .int .u8 255, .int .u8 255, .int .u8 255, .int .u8 255, .int .u8 255, .int .u8 255, .int .u8 0, .int .u8 0, .int .u8 0, .int .u8 0, .int .u8 0, .int .u8 0, .int .u8 1, .int .u8 2] 5)) w.heap.size (.slice (some ⟨w1.heap.size, 0, none⟩) 16 16) [255, 255, 255, 255, 255, 255, 255, 255, 0, 0, 0, 0, 0, 0, 1, 2] :=
    own_made w1 [255, 255, 255, 255, 255, 255, 255, 255, 0, 0, 0, 0, 0, 0, 1, 2] (by decide) w.heap.size hb1.size
  have hb2 := bgo hb1 (balloc w1 (.cells #[.int .u8 255, .int .u8 255, .int .u8 255, .int .u8 255, .int .u8 255, .int .u8 255, .int .u8 255, .int .u8 255, .int .u8 0, .int .u8 0, .int .u8 0, .int .u8 0, .int .u8 0, .int .u8 0, .int .u8 1, .int .u8 2] 5))
  have h1' := h1.below (balloc w1 (.cells #[.int .u8 255, .int .u8 255, .int .u8 255, .int .u8 255, .int .u8 255, .int .u8 255, .int .u8 255, .int .u8 255, .int .u8 0, .int .u8 0, .int .u8 0, .int .u8 0, .int .u8 0, .int .u8 0, .int .u8 1, .int .u8 2] 5))
  generalize w1.alloc (.cells #[.int .u8 255, .int .u8 255, .int .u8 255, .int .u8 255, .int .u8 255, .int .u8 255, .int .u8 255, .int .u8 255, .int .u8 0, .int .u8 0, .int .u8 0, .int .u8 0, .int .u8 0, .int .u8 0, .int .u8 1, .int .u8 2] 5) = w2 at *
  refine (rsame_any _ _ _ _ _ _ _ h1'.sees h2.sees).mono ?_
  rintro e w3 ⟨rfl, rfl⟩
  dsimp only
  go_wp2_with fail
  go_ret
  exact ⟨rfl, hb2⟩
def WritesPost (w : World) (e : Ending) (w' : World) : Prop := e = .returned (.bool true) ∧ Below w.heap.size w w'
/-- The bounds of the two spans that the law looks at. -/
def loK (lo a : Int) (k : Nat) : Int := if k = 0 then lo else a
def hiK (hi a b : Int) (k : Nat) : Int := if k = 0 then hi else a + b
set_option maxRecDepth 100000 in
set_option maxHeartbeats 1000000 in
theorem writes_law (w : World) (lo hi : Int) (B : Nat) (u : Value) (raw : Bs) (a b : Int) (hu : SeesB w B u raw) (hB : B ≤ w.heap.size) (a0 : 0 ≤ a) (a1 : a < 65536) (b0 : 0 ≤ b) (b1 : b < 65536) :
    Calls Try.prog 3 #[.agg #[.int .i64 lo, .int .i64 hi], u, .int .u16 a, .int .u16 b] w (WritesPost w) := by
  obtain ⟨A, c, rfl, hc1, hc2⟩ := hu.mk_
  have hu := Lib.hid hu
  by_cases hl : 40 < raw.length
  · have hl2 : (40 : Int) < (raw.length : Int) := by omega
    go_enter Try.func3, Try.ntmps3
    go_wp2_with fail
    refine (known_any _).mono ?_
    rintro e w1 ⟨rfl, hb1⟩
    dsimp only
    go_wp2_with fail
    go_ret
    exact ⟨rfl, bgo (balloc w _) hb1⟩
  · have hl2 : ¬ ((40 : Int) < (raw.length : Int)) := by omega
    go_enter Try.func3, Try.ntmps3
    go_wp2_with fail
    have hbw := bgo (bgo (balloc w (.cells #[.int .i64 lo, .int .i64 hi] 23)) (balloc _ (.cells #[.int .i64 a, .int .i64 (a + b)] 23))) (balloc _ (.cells #[.int .i64 lo, .int .i64 hi, .int .i64 a, .int .i64 (a + b)] 23))
    have hbx := Box.new ((w.alloc (.cells #[.int .i64 lo, .int .i64 hi] 23)).alloc (.cells #[.int .i64 a, .int .i64 (a + b)] 23)) 23 [.int .i64 lo, .int .i64 hi, .int .i64 a, .int .i64 (a + b)]
    have hgw : w.heap.size ≤ w.heap.size + 1 + 1 := by omega
    simp only [World.size_alloc] at hbx
    generalize w.heap.size + 1 + 1 = g at hbx hgw ⊢
    generalize ((w.alloc (.cells #[.int .i64 lo, .int .i64 hi] 23)).alloc (.cells #[.int .i64 a, .int .i64 (a + b)] 23)).alloc (.cells #[.int .i64 lo, .int .i64 hi, .int .i64 a, .int .i64 (a + b)] 23) = W at hbw hbx ⊢
    go_loopw [38] (fun t wr => ∃ k : Nat, k ≤ 2 ∧ t = .int .i64 k ∧ Hid (Box wr g 23 [.int .i64 lo, .int .i64 hi, .int .i64 a, .int .i64 (a + b)]) ∧ Hid (Below w.heap.size w wr)) (fun t _ => 2 - (intOf t).toNat)
    case atStart => exact ⟨0, by omega, rfl, hbx, hbw⟩
    case round =>
      clear hbx hbw
      obtain ⟨k, hk2, rfl, hbx, hbw⟩ := hrel
      by_cases hlt : k < 2
      · have x0 : wr.cell? ⟨g, k * 2, none⟩ = some (.int .i64 (loK lo a k)) := by
          rcases (by omega : k = 0 ∨ k = 1) with rfl | rfl
          · exact hbx.out.cell 0
          · exact hbx.out.cell 2
        have x1 : wr.cell? ⟨g, k * 2 + 1, none⟩ = some (.int .i64 (hiK hi a b k)) := by
          rcases (by omega : k = 0 ∨ k = 1) with rfl | rfl
          · exact hbx.out.cell 1
          · exact hbx.out.cell 3
        generalize loK lo a k = L at *
        generalize hiK hi a b k = H at *
        have i0 : (0 : Int) ≤ (k : Int) := by omega
        have i1 : (k : Int) < 2 := by omega
        go_wp2_with fail
        have hc := balloc wr (.cells #[.int .i64 L, .int .i64 H] 23)
        have hy := Box.new wr 23 [.int .i64 L, .int .i64 H]
        have hx1 := Lib.hid (hbx.out.below hc)
        have hw1 := Lib.hid (bgo hbw.out hc)
        have hs1 := Lib.hid (hu.out.below (hw1.out.mono hB))
        clear hbx hbw hu x0 x1
        generalize wr.alloc (.cells #[.int .i64 L, .int .i64 H] 23) = W1 at *
        generalize wr.heap.size = p at *
        refine (span_any L H _).mono ?_
        rintro e w2 ⟨v, rfl, h2, hb2⟩
        obtain ⟨A2, c2, rfl, -, -⟩ := h2.sees.mk_
        have hy2 := hy.below hb2
        have y0 : w2.cell? ⟨p, 0, none⟩ = some (.int .i64 L) := hy2.cell 0
        have y1 : w2.cell? ⟨p, 1, none⟩ = some (.int .i64 H) := hy2.cell 1
        dsimp only
        go_wp2_with fail
        refine (rspan_any L H _).mono ?_
        rintro e w3 ⟨v, rfl, h3, hb3⟩
        obtain ⟨A3, c3, rfl, -, -⟩ := h3.sees.mk_
        have h2 := h2.below hb3
        have hy3 := hy2.below hb3
        have hall := bgo (bgo hw1.out hb2) hb3
        have hx3 := (hx1.out.below hb2).below hb3
        clear y0 y1 hy2
        dsimp only
        go_wp2_with fail
        refine (unspan_any _ _ _ _ h2.sees (Nat.le_refl _)).mono ?_
        rintro e w4 ⟨rfl, hb4⟩
        have h2 := h2.below hb4
        have h3 := h3.below hb4
        have hy4 := hy3.below hb4
        have hall := bgo hall hb4
        have hx4 := hx3.below hb4
        clear hy3 hx3 hb3 hb4 hb2
        by_cases hv : vS L H = true
        · obtain ⟨e1, e2, e3⟩ := un_span L H hv
          have e4 : spanC L H = 0 := by simp [spanC, hv]
          have e5 : spanL L H = spanB L H := by simp [spanL, hv]
          rw [e5] at h2 h3
          rw [e5, e4, e1, e2, e3]
          dsimp only
          go_wp2_with fail
          have hc5 := balloc w4 (.cells #[.int .i64 L, .int .i64 H] 23)
          have hz := Box.new w4 23 [.int .i64 L, .int .i64 H]
          have h2 := h2.below hc5
          have h3 := h3.below hc5
          have hy5 := hy4.below hc5
          have hall := bgo hall hc5
          have hx5 := hx4.below hc5
          clear hy4 hx4 hc5 hs1 hx1 hw1
          generalize w4.alloc (.cells #[.int .i64 L, .int .i64 H] 23) = W5 at *
          generalize w4.heap.size = q at *
          refine (rsame_any _ _ _ _ _ _ _ h2.sees h3.sees).mono ?_
          rintro e w6 ⟨rfl, rfl⟩
          rw [beq_self_eq_true]
          have y0 : w6.cell? ⟨p, 0, none⟩ = some (.int .i64 L) := hy5.cell 0
          have y1 : w6.cell? ⟨p, 1, none⟩ = some (.int .i64 H) := hy5.cell 1
          have z0 : w6.cell? ⟨q, 0, none⟩ = some (.int .i64 L) := hz.cell 0
          have z1 : w6.cell? ⟨q, 1, none⟩ = some (.int .i64 H) := hz.cell 1
          have hx5 := Lib.hid hx5
          have hall := Lib.hid hall
          dsimp only
          go_wp2_with fail
          go_roundw
          case rel => exact ⟨k + 1, by omega, by go_num, hx5, hall⟩
          case measure => simp [intOf]; omega
        · have e1 : spanC L H = 3 := by simp [spanC, hv]
          have e5 : spanL L H = [] := by simp [spanL, hv]
          rw [e5] at h2 h3
          rw [e5, e1, show unC [] = 3 from by decide, show unA [] = 0 from by decide, show unB [] = 0 from by decide]
          dsimp only
          go_wp2_with fail
          have hc5 := balloc w4 (.cells #[.int .i64 0, .int .i64 0] 23)
          have hz := Box.new w4 23 [.int .i64 0, .int .i64 0]
          have h2 := h2.below hc5
          have h3 := h3.below hc5
          have hy5 := hy4.below hc5
          have hall := bgo hall hc5
          have hx5 := hx4.below hc5
          clear hy4 hx4 hc5 hs1 hx1 hw1
          generalize w4.alloc (.cells #[.int .i64 0, .int .i64 0] 23) = W5 at *
          generalize w4.heap.size = q at *
          refine (rsame_any _ _ _ _ _ _ _ h2.sees h3.sees).mono ?_
          rintro e w6 ⟨rfl, rfl⟩
          rw [beq_self_eq_true]
          have y0 : w6.cell? ⟨p, 0, none⟩ = some (.int .i64 L) := hy5.cell 0
          have y1 : w6.cell? ⟨p, 1, none⟩ = some (.int .i64 H) := hy5.cell 1
          have z0 : w6.cell? ⟨q, 0, none⟩ = some (.int .i64 0) := hz.cell 0
          have z1 : w6.cell? ⟨q, 1, none⟩ = some (.int .i64 0) := hz.cell 1
          have hx5 := Lib.hid hx5
          have hall := Lib.hid hall
          dsimp only
          go_wp2_with fail
          go_roundw
          case rel => exact ⟨k + 1, by omega, by go_num, hx5, hall⟩
          case measure => simp [intOf]; omega
      · go_wp2_with fail
        refine (unspan_any B _ raw _ (hu.out.below (hbw.out.mono hB)) (Nat.le_trans hB hbw.out.size)).mono ?_
        rintro e w2 ⟨rfl, hb2⟩
        have hall := bgo hbw.out hb2
        clear hbx hbw hb2
        dsimp only
        go_wp2_with fail
        have hc := balloc w2 (.cells #[.int .i64 (unA raw), .int .i64 (unB raw)] 23)
        have hy := Box.new w2 23 [.int .i64 (unA raw), .int .i64 (unB raw)]
        have hall := bgo hall hc
        generalize w2.alloc (.cells #[.int .i64 (unA raw), .int .i64 (unB raw)] 23) = W3 at *
        generalize w2.heap.size = p at *
        refine (runspan_any B _ raw _ (hu.out.below (hall.mono hB)) (Nat.le_trans hB hall.size)).mono ?_
        rintro e w4 ⟨rfl, hb4⟩
        have hall := bgo hall hb4
        have hy4 := hy.below hb4
        clear hy hb4 hc
        dsimp only
        go_wp2_with fail
        have hc := balloc w4 (.cells #[.int .i64 (unA raw), .int .i64 (unB raw)] 23)
        have hz := Box.new w4 23 [.int .i64 (unA raw), .int .i64 (unB raw)]
        have hall := bgo hall hc
        have hy5 := hy4.below hc
        clear hc hy4
        generalize w4.alloc (.cells #[.int .i64 (unA raw), .int .i64 (unB raw)] 23) = W5 at *
        generalize w4.heap.size = q at *
        refine (known_any _).mono ?_
        rintro e w6 ⟨rfl, hb6⟩
        have hall := bgo hall hb6
        have hy6 := hy5.below hb6
        have hz6 := hz.below hb6
        generalize unA raw = X at *
        generalize unB raw = Y at *
        generalize unC raw = Z at *
        have y0 : w6.cell? ⟨p, 0, none⟩ = some (.int .i64 X) := hy6.cell 0
        have y1 : w6.cell? ⟨p, 1, none⟩ = some (.int .i64 Y) := hy6.cell 1
        have z0 : w6.cell? ⟨q, 0, none⟩ = some (.int .i64 X) := hz6.cell 0
        have z1 : w6.cell? ⟨q, 1, none⟩ = some (.int .i64 Y) := hz6.cell 1
        clear hy6 hz6 hy5 hz hb6
        dsimp only
        go_wp2_with fail
        go_ret
        exact ⟨rfl, hall⟩
theorem writes_row (lo hi : Int) (_wa : (Lit.int .i64 lo).wf = true) (_wb : (Lit.int .i64 hi).wf = true) (B : Nat) (u : Value) (raw : Bs) (w : World) (hu : SeesB w B u raw) (hB : B ≤ w.heap.size) (a : Int) (w2 : (Lit.int .u16 a).wf = true) (b : Int) (w3 : (Lit.int .u16 b).wf = true) :
    Calls Try.prog 3 #[.agg #[.int .i64 lo, .int .i64 hi], u, .int .u16 a, .int .u16 b] w (WritesPost w) := by
  have h2 := bounds_u16 w2
  have h3 := bounds_u16 w3
  exact writes_law w lo hi B u raw a b hu hB h2.1 (by omega) h3.1 (by omega)
end Go.Proofs.Ytjlobdediebpcaa

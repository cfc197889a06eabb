/- The walk of the statement EraUnfolds: for every instant, width and timestamp it returns true. -/
import Derived.Test.YtgdbfjfnjjmfmaaEraNested
namespace Go.Proofs.Ytgdbfjfnjjmfmaa
open Go.RowKit
set_option maxRecDepth 100000 in
set_option maxHeartbeats 0 in
theorem unfolds_law (a0 a1 a2 : Int) (_w0 : (Lit.int .i64 a0).wf = true) (_w1 : (Lit.int .i64 a1).wf = true) (w2 : (Lit.int .u64 a2).wf = true) (w : World) :
    Calls Try.prog 5 #[.int .i64 a0, .int .i64 a1, .int .u64 a2] w (NearLawPost w) := by
  have b2 := bounds_u64 w2
  have ht := within_lo a0 144115188075855872 (by omega)
  have hp := within_lo a1 36028797018963968 (by omega)
  go_enter Try.func5, Try.ntmps5
  go_wp2_with (go_at_call 10; refine (within_any _ _ (by omega) (by omega) _).mono ?_; rintro e w' ⟨rfl, rfl⟩)
  generalize within a0 144115188075855872 = t at ht ⊢
  generalize within a1 36028797018963968 = p at hp ⊢
  obtain ⟨ht0, ht1⟩ := ht
  obtain ⟨hp0, hp1⟩ := hp
  have hv : vS t (t + p) = true := by unfold vS; simp; omega
  refine (unfold_ok _ _ _ (by omega) (by omega) hv (by unfold last_ first_; omega) _).mono ?_
  rintro e w1 ⟨v, rfl, hown, hb1⟩
  have hF : Hid (first_ t a2 = first_ t a2) := rfl
  have hF0 : t ≤ hi_ (first_ t a2) a2 := by unfold hi_ first_; omega
  have hF1 : hi_ (first_ t a2) a2 ≤ t + 4503599627370495 := by unfold hi_ first_; omega
  have hL0 : lo_ (last_ (t + p) a2) a2 ≤ t + p := by unfold lo_ last_; omega
  have hL1 : t + p < lo_ (last_ (t + p) a2) a2 + 4503599627370496 := by unfold lo_ last_; omega
  have hn : ((last_ (t + p) a2 - first_ t a2 + 1).toNat : Int) = last_ (t + p) a2 - first_ t a2 + 1 := by unfold lo_ hi_ at *; omega
  generalize first_ t a2 = F at *
  generalize last_ (t + p) a2 = L at *
  generalize (L - F + 1).toNat = n at *
  have hc0 : w1.cell? ⟨w.heap.size, 0, none⟩ = some (.int .i64 t) := (hb1.cell (p := ⟨w.heap.size, 0, none⟩) (by simp)).trans (World.cell?_alloc_at _ _ _ _ rfl)
  have hc1 : w1.cell? ⟨w.heap.size, 1, none⟩ = some (.int .i64 (t + p)) := (hb1.cell (p := ⟨w.heap.size, 1, none⟩) (by simp)).trans (World.cell?_alloc_at _ _ _ _ rfl)
  have hbf : Below w.heap.size w w1 := ((Below.refl _ _).alloc (Nat.le_refl _) _).trans (hb1.mono (by simp))
  clear hF hb1
  have hn4 : n ≤ 10 := by unfold lo_ hi_ at *; omega
  have hn5 : p / 4503599627370496 ≤ (n : Int) := by unfold lo_ hi_ at *; omega
  have hn6 : (n : Int) ≤ p / 4503599627370496 + 2 := by unfold lo_ hi_ at *; omega
  obtain ⟨A0, cap, rfl, hcp1, hcp2⟩ := (Sees.of_own hown).mk_
  have HO := Lib.hid (Sees.of_own hown)
  have hz1 := hbf.size
  have hlt1 : w.heap.size < w1.heap.size := World.block_lt_of_cell? w1 _ hc0
  unfold maxLen at hcp2
  clear hown
  go_wp2
  go_loopw [10] (fun i wr => ∃ k m : Nat, k ≤ n ∧ i = .int .i64 k ∧ wr = w1.drewN m) (fun i _ => n - (intOf i).toNat)
  case atStart => exact ⟨0, 0, Nat.zero_le _, rfl, rfl⟩
  case round =>
    obtain ⟨k, m0, hk, rfl, rfl⟩ := hrel
    by_cases hlt : k < n
    · obtain ⟨g, o, rfl, hg, hcell⟩ := HO.out.at_ (by omega)
      have y0 := hcell _ _ (cellsOf_at F a2 n k hlt).1
      have y1 := hcell _ _ (cellsOf_at F a2 n k hlt).2
      have eA : (lo_ (F + k) a2 * 4096 % 18446744073709551616) / 4096 = a2 / 4096 := by unfold lo_; omega
      have iA0 : -1152921504606846976 ≤ lo_ (F + k) a2 := by unfold lo_ hi_ at *; omega
      have iA : lo_ (F + k) a2 ≤ t + p := by unfold lo_ hi_ at *; omega
      have iB : t ≤ hi_ (F + k) a2 := by unfold lo_ hi_ at *; omega
      have iAB : hi_ (F + k) a2 ≤ lo_ (F + k) a2 + 1 := by unfold lo_ hi_; omega
      have iAB0 : lo_ (F + k) a2 ≤ hi_ (F + k) a2 := by unfold lo_ hi_; omega
      have hm : (hi_ (F + k) a2 = lo_ (F + k) a2 ∧ a2 % 4096 = 0) ∨ (lo_ (F + k) a2 < hi_ (F + k) a2 ∧ 0 < a2 % 4096) := by unfold lo_ hi_; omega
      have hprev : 0 < k → lo_ (F + (k - 1 : Nat)) a2 = lo_ (F + k) a2 - 4503599627370496 := by intro h; unfold lo_; omega
      have e4 := and4095 a2 (by omega) (by omega)
      generalize lo_ (F + k) a2 = A at *
      generalize hi_ (F + k) a2 = B at *
      have hprev' : ∀ j : Nat, k = j + 1 → w1.cell? ⟨g, o + j * 2, none⟩ = some (.int .i64 (A - 4503599627370496)) := fun j hj => by
        have := hcell _ _ (cellsOf_at F a2 n j (by omega)).1
        rw [this, show j = k - 1 from by omega, hprev (by omega)]
      have HPV := Lib.hid hprev'
      rw [← Nat.add_assoc] at y1
      have q1 : decide (t + p < A) = false := by simp; omega
      have q2 : decide (B < t) = false := by simp; omega
      have q3 : IntKind.i64.wrap (B - A) = B - A := by rw [IntKind.wrap_i64]; omega
      have q4 : decide (1 < B - A) = false := by simp; omega
      have q5 : (B == A) = (bits BinOp.and IntKind.u64 a2 4095 == 0) := by
        rw [e4]
        rcases hm with ⟨h1, h2⟩ | ⟨h1, h2⟩
        · rw [h1, h2]; simp
        · rw [show (B == A) = false from by rw [beq_eq_false_iff_ne]; omega, show (a2 % 4096 == 0) = false from by rw [beq_eq_false_iff_ne]; omega]
      have q6 : ∀ b : Bool, (b != b) = false := fun b => by cases b <;> rfl
      have q7 : IntKind.i64.wrap (A - (A - 4503599627370496)) = 4503599627370496 := by rw [IntKind.wrap_i64]; omega
      have i1 : (k : Int) < (n : Int) := by omega
      have i2 : (0 : Int) ≤ (k : Int) := by omega
      clear hm iAB iAB0 e4 hcell hprev hprev' hF0 hF1 hL0 hL1 hn hv hn5 hn6 hn4 b2 hk hz1 hg
      rcases Nat.eq_zero_or_pos k with hk0 | hk0
      · subst hk0
        clear HPV
        simp only [Nat.zero_mul, Nat.add_zero] at y0 y1
        go_wp2_with (go_at_call 13; refine (wire_any _ (by omega) (by omega) _).mono ?_; rintro e w' ⟨rfl, rfl⟩)
        simp only [List.append_eq, List.cons_append, List.nil_append]
        go_quiet (fail)
        go_wp2
        go_roundw
        case rel => exact ⟨0 + 1, _, by omega, by go_num, rfl⟩
        case measure => simp [intOf]; omega
      · obtain ⟨j, rfl⟩ : ∃ j, k = j + 1 := ⟨k - 1, by omega⟩
        have z0 := HPV.out j rfl
        have u1 : IntKind.i64.wrap (((j + 1 : Nat) : Int) - 1) = (j : Int) := by rw [IntKind.wrap_i64]; omega
        have u2 : (0 : Int) < ((j + 1 : Nat) : Int) := by omega
        have u3 : (0 : Int) ≤ (j : Int) := by omega
        have u4 : (j : Int) < (n : Int) := by omega
        clear HPV
        go_wp2_with (go_at_call 13; refine (wire_any _ (by omega) (by omega) _).mono ?_; rintro e w' ⟨rfl, rfl⟩)
        simp only [List.append_eq, List.cons_append, List.nil_append]
        go_quiet (fail)
        go_wp2
        go_roundw
        case rel => exact ⟨j + 1 + 1, _, by omega, by go_num, rfl⟩
        case measure => simp [intOf]; omega
    · obtain rfl : k = n := by omega
      go_wp2_with fail
      refine (known_any _).mono ?_
      rintro e w5 ⟨rfl, hb5⟩
      go_wp2
      go_ret
      exact ⟨ret_bool (by rw [decide_eq_true_eq]; omega), (below_drewN hbf m0).trans (hb5.mono hz1)⟩
end Go.Proofs.Ytgdbfjfnjjmfmaa

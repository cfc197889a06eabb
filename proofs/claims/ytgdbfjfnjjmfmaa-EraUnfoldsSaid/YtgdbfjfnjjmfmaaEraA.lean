/- Contracts of the functions of package era (and of ticks, interval) that the statements about eras reach. Conditions: those of each theorem. -/
import Derived.Test.YtgdbfjfnjjmfmaaMem
import Derived.WalkKit
import Derived.WalkLawsBesides
import Derived.Handy
import Derived.Outline
import Derived.Lib.Hide
import Derived.Laws.MathBits
import Derived.Deep.QuietTactic
import Derived.BigQuiet
namespace Go.Proofs.Ytgdbfjfnjjmfmaa
open Go.RowKit

def vT (t : Int) : Bool := decide (-1152921504606846976 ≤ t ∧ t ≤ 1152921504606846976)
def vS (lo hi : Int) : Bool := decide (-1152921504606846976 ≤ lo ∧ hi ≤ 1152921504606846976 ∧ lo ≤ hi)

theorem ahead_any (a b : Int) (w : World) :
    Calls Try.prog 9 #[.int .u64 a, .int .u64 b] w fun e w' => e = .returned (.int .i64 (wrap64 (IntKind.u64.wrap (a - b)))) ∧ w = w' := by
  go_enter Try.func9, Try.ntmps9
  go_wp2
  go_ret
  exact ⟨rfl, rfl⟩
theorem down_any (a : Int) (h0 : 0 ≤ a) (h1 : a < 18446744073709551616) (w : World) :
    Calls Try.prog 18 #[.int .u64 a] w fun e w' => e = .returned (.int .i64 (a / 4096)) ∧ w = w' := by
  go_enter Try.func18, Try.ntmps18
  go_wp2
  go_ret
  exact ⟨rfl, rfl⟩
theorem and4095 (a : Int) (h0 : 0 ≤ a) (h1 : a < 18446744073709551616) : bits .and .u64 a 4095 = a % 4096 := by
  obtain ⟨n, rfl⟩ := Int.eq_ofNat_of_zero_le h0
  rw [show (4095 : Int) = ((4095 : Nat) : Int) from rfl, Go.bits_and_u64_nat n 4095 (by omega) (by omega), show (4095 : Nat) = 2 ^ 12 - 1 from rfl, Nat.and_two_pow_sub_one_eq_mod]
  rfl
theorem up_any (a : Int) (h0 : 0 ≤ a) (h1 : a < 18446744073709551616) (w : World) :
    Calls Try.prog 17 #[.int .u64 a] w fun e w' => e = .returned (.int .i64 ((a + 4095) / 4096)) ∧ w = w' := by
  have hb := and4095 a h0 h1
  go_enter Try.func17, Try.ntmps17
  go_wp2_with (go_at_call 18; refine (down_any _ (by omega) (by omega) _).mono ?_; rintro e w' ⟨rfl, rfl⟩)
  all_goals (go_ret; exact ⟨ret_int (by omega), rfl⟩)
theorem up_any' (a : Int) (h0 : 0 ≤ a) (h1 : a < 18446744073709551616) (w : World) :
    Calls Try.prog 17 #[.int .u64 a] w fun e w' => e = .returned (.int .i64 ((a + 4095) / 4096)) ∧ w' = w := (up_any a h0 h1 w).mono fun _ _ ⟨h, k⟩ => ⟨h, k.symm⟩
theorem down_any' (a : Int) (h0 : 0 ≤ a) (h1 : a < 18446744073709551616) (w : World) :
    Calls Try.prog 18 #[.int .u64 a] w fun e w' => e = .returned (.int .i64 (a / 4096)) ∧ w' = w := (down_any a h0 h1 w).mono fun _ _ ⟨h, k⟩ => ⟨h, k.symm⟩
theorem validt_any (t : Int) (w : World) :
    Calls Try.prog 20 #[.int .i64 t] w fun e w' => e = .returned (.bool (vT t)) ∧ w = w' := by
  by_cases h1 : -1152921504606846976 ≤ t <;> by_cases h2 : t ≤ 1152921504606846976
  all_goals
    go_enter Try.func20, Try.ntmps20
    go_wp2
    go_ret
    exact ⟨ret_bool (by simp [vT, *]; try omega), rfl⟩
theorem valid_any (lo hi : Int) (w : World) :
    Calls Try.prog 16 #[.agg #[.int .i64 lo, .int .i64 hi]] w fun e w' => e = .returned (.bool (vS lo hi)) ∧ Below w.heap.size w w' := by
  have e1 : vS lo hi = (vT lo && vT hi && decide (lo ≤ hi)) := by
    unfold vS vT; rw [Bool.eq_iff_iff]; simp; omega
  by_cases h1 : vT lo = true <;> by_cases h2 : vT hi = true
  all_goals
    go_enter Try.func16, Try.ntmps16
    go_wp2_with (go_at_call 20; refine (validt_any _ _).mono ?_; rintro e w' ⟨rfl, rfl⟩)
    go_ret
    exact ⟨ret_bool (by rw [e1]; simp [*]), (Below.refl _ _).alloc (Nat.le_refl _) _⟩
def lo_ (k w : Int) : Int := k * 4503599627370496 + w / 4096
def hi_ (k w : Int) : Int := k * 4503599627370496 + (w + 4095) / 4096
theorem stamp_any (k a : Int) (h0 : 0 ≤ a) (h1 : a < 18446744073709551616) (hk0 : -1024 ≤ k) (hk1 : k ≤ 1024) (w : World) :
    Calls Try.prog 19 #[.int .i64 k, .int .u64 a] w fun e w' => e = .returned (.agg #[.int .i64 (lo_ k a), .int .i64 (hi_ k a)]) ∧ Below w.heap.size w w' := by
  go_enter Try.func19, Try.ntmps19
  go_wp2_with (first | (go_at_call 18; refine (down_any _ (by omega) (by omega) _).mono ?_; rintro e w' ⟨rfl, rfl⟩) | (go_at_call 17; refine (up_any _ (by omega) (by omega) _).mono ?_; rintro e w' ⟨rfl, rfl⟩))
  go_returns
  exact ⟨rfl, by go_grown⟩
def dist (lo hi t : Int) : Int := max (max (lo - t) (t - hi)) 0
theorem dist_any (lo hi t : Int) (h0 : -2305843009213693952 ≤ lo) (h1 : lo ≤ 2305843009213693952) (h2 : -2305843009213693952 ≤ hi) (h3 : hi ≤ 2305843009213693952) (h4 : -2305843009213693952 ≤ t) (h5 : t ≤ 2305843009213693952) (w : World) :
    Calls Try.prog 21 #[.agg #[.int .i64 lo, .int .i64 hi], .int .i64 t] w fun e w' => e = .returned (.int .i64 (dist lo hi t)) ∧ Below w.heap.size w w' := by
  go_enter Try.func21, Try.ntmps21
  go_wp2
  all_goals
    go_returns
    exact ⟨ret_int (by unfold dist; omega), by go_grown⟩
def first_ (lo a : Int) : Int := (lo - (a + 4095) / 4096 + 4503599627370495) / 4503599627370496
def last_ (hi a : Int) : Int := (hi - a / 4096) / 4503599627370496
def cellsOf (k a : Int) : Nat → List Value
  | 0 => []
  | n + 1 => cellsOf k a n ++ [.int .i64 (lo_ (k + n) a), .int .i64 (hi_ (k + n) a)]
theorem span_info : (Try.prog.info? 32).map (fun i => (i.zero, i.size, i.bytes)) = some (some (.agg #[.int .i64 0, .int .i64 0]), 2, 16) := by kernel_rfl
set_option maxRecDepth 100000 in
theorem unfold_ok (lo hi a : Int) (h0 : 0 ≤ a) (h1 : a < 18446744073709551616) (hv : vS lo hi = true) (hl : last_ hi a - first_ lo a < 64) (w : World) :
    Calls Try.prog 11 #[.agg #[.int .i64 lo, .int .i64 hi], .int .u64 a] w fun e w' => ∃ v, e = .returned (.tuple #[v, .int .i64 0]) ∧
      w'.ownsRow w.heap.size 32 2 v (last_ hi a - first_ lo a + 1).toNat (cellsOf (first_ lo a) a (last_ hi a - first_ lo a + 1).toNat) ∧ Below w.heap.size w w' := by
  obtain ⟨i0, hi0, hz0, hz1, hz2⟩ := info_parts span_info
  have hv' := hv
  simp only [vS, decide_eq_true_eq] at hv'
  obtain ⟨v1, v2, v3⟩ := hv'
  go_enter Try.func11, Try.ntmps11
  go_wp2_with (go_at_call 16; refine (valid_any _ _ _).mono ?_; rw [hv]; rintro e w1 ⟨rfl, hb1⟩)
  have c0 : w1.cell? ⟨w.heap.size, 0, none⟩ = some (.int .i64 lo) := (hb1.cell (p := ⟨w.heap.size, 0, none⟩) (by simp)).trans (by rw [World.cell?_alloc_at _ _ _ _ rfl]; rfl)
  have c1 : w1.cell? ⟨w.heap.size, 1, none⟩ = some (.int .i64 hi) := (hb1.cell (p := ⟨w.heap.size, 1, none⟩) (by simp)).trans (by rw [World.cell?_alloc_at _ _ _ _ rfl]; rfl)
  go_quiet ((first | (go_at_call 17; exact Calls.quiet_of_same (up_any' _ (by omega) (by omega) _)) | (go_at_call 18; exact Calls.quiet_of_same (down_any' _ (by omega) (by omega) _))))
  have HF : Hid (first_ lo a = (lo - (a + 4095) / 4096 + 4503599627370496 - 1) / 4503599627370496) := by show first_ lo a = _; unfold first_; omega
  have HL : Hid (last_ hi a = (hi - a / 4096) / 4503599627370496) := rfl
  generalize (lo - (a + 4095) / 4096 + 4503599627370496 - 1) / 4503599627370496 = F at HF ⊢
  generalize (hi - a / 4096) / 4503599627370496 = L at HL ⊢
  have hF0 : -1024 ≤ F := by rw [← HF.out]; unfold first_; omega
  have hF1 : F ≤ 512 := by rw [← HF.out]; unfold first_; omega
  have hL0 : -1024 ≤ L := by rw [← HL.out]; unfold last_; omega
  have hL1 : L ≤ 512 := by rw [← HL.out]; unfold last_; omega
  have hl' : L - F < 64 := by have := HF.out; have := HL.out; omega
  have HP : Hid (first_ lo a = F ∧ last_ hi a = L) := ⟨HF.out, HL.out⟩
  have hb2 : Below w.heap.size w (w1.drewN nq) := below_drewN (((Below.refl _ _).alloc (Nat.le_refl _) _).trans (hb1.mono (by simp))) nq
  clear HF HL hl hv c0 c1 hb1
  generalize w1.drewN nq = w2 at hb2 ⊢
  have hz := hb2.size
  obtain ⟨n, hn⟩ : ∃ n : Nat, n = (L - F + 1).toNat := ⟨_, rfl⟩
  have HN := Lib.hid hn
  have hn1 : L - F + 1 ≤ n := by omega
  have hn2 : n ≤ 64 := by omega
  have hn3 : (n : Int) = 0 ∨ n ≤ L - F + 1 := by omega
  clear hn
  go_wp2
  go_loopw [8, 35] (fun v k wr => ∃ j : Nat, j ≤ n ∧ k = .int .i64 j ∧ wr.ownsRow w.heap.size 32 2 v j (cellsOf F a j) ∧ Below w.heap.size w wr) (fun _ k _ => n - (intOf k).toNat)
  case atStart => exact ⟨0, Nat.zero_le _, rfl, World.ownsRow_nil _ _ _ _, hb2⟩
  case round =>
    obtain ⟨j, hj, rfl, hown, hbw⟩ := hrel
    have hsz := hbw.size
    by_cases hlt : (j : Int) < L - F + 1
    · go_wp2_with (first | (go_at_call 19; refine (stamp_any _ _ (by omega) (by omega) (by omega) (by omega) _).mono ?_; rintro e w4 ⟨rfl, hb4⟩; have hown4 := own_below hown hb4; have hz4 := hb4.size; clear hown) | (at_builtin; refine wpList_append_own _ rfl (.tmp 38) (.tmp 44) 27 rfl w.heap.size 32 i0 _ 2 16 Try.underlying27 hi0 hz0 hz1 hz2 rfl (by decide) _ j _ rfl (hown4.alloc _) ⟨w4.heap.size, 0, none⟩ 1 1 [.int .i64 (lo_ (F + j) a), .int .i64 (hi_ (F + j) a)] rfl rfl ?c1 ?c2 ?c3 ?c4 ?c5 ?_))
      case c1 => exact cell_two_new _ _ _ _
      case c2 => simp [Value.oneCell']
      case c3 => unfold maxLen; omega
      case c4 => omega
      case c5 => simp; omega
      intro v' w5 hown5 hg5 _
      have hbw5 : Below w.heap.size w w5 := ((hbw.trans (hb4.mono hsz)).alloc (by omega) _).grown hg5 (by simp; omega) (fun k hk => (hown4.lt k hk).1)
      clear hown4 hg5 hb4
      go_wp2
      go_roundw
      case rel => exact ⟨j + 1, by omega, by go_num, hown5, hbw5⟩
      case measure => simp [intOf]; omega
    · go_wp2
      obtain rfl : j = n := by omega
      go_ret2
      exact ⟨_, rfl, by rw [HP.out.1, HP.out.2, ← HN.out]; exact hown, hbw⟩
end Go.Proofs.Ytgdbfjfnjjmfmaa

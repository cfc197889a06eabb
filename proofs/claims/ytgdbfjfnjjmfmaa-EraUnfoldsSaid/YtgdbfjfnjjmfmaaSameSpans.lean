/- ref11.SameSpans on two slices that show the same cells: true. -/
import Derived.Test.YtgdbfjfnjjmfmaaEraA
namespace Go.Proofs.Ytgdbfjfnjjmfmaa
open Go.RowKit
set_option maxRecDepth 100000 in
theorem same_true (B : Nat) (u v : Value) (n : Nat) (f : Nat → Int) (g : Nat → Int) (xs : List Value) (w : World) (hu : Sees w B u 2 n xs) (hv : Sees w B v 2 n xs)
    (hf : ∀ k, k < n → xs[k * 2]? = some (.int .i64 (f k)) ∧ xs[k * 2 + 1]? = some (.int .i64 (g k))) :
    Calls Try.prog 12 #[u, v] w fun e w' => e = .returned (.bool true) ∧ ∃ m, w' = w.drewN m := by
  obtain ⟨A, c, rfl, hc1, hc2⟩ := hu.mk_
  obtain ⟨A', c', rfl, hc1', hc2'⟩ := hv.mk_
  have hm : n ≤ 9223372036854775807 := by unfold maxLen at hc2; omega
  go_enter Try.func12, Try.ntmps12
  go_wp2
  go_loopw [5] (fun i wr => ∃ k m : Nat, k ≤ n ∧ i = .int .i64 k ∧ wr = w.drewN m) (fun i _ => n - (intOf i).toNat)
  case atStart => exact ⟨0, 0, Nat.zero_le _, rfl, rfl⟩
  case round =>
    obtain ⟨k, m, hk, rfl, rfl⟩ := hrel
    by_cases hlt : k < n
    · obtain ⟨b, o, rfl, hb, hcell⟩ := hu.at_ (by omega)
      obtain ⟨b', o', rfl, hb', hcell'⟩ := hv.at_ (by omega)
      have x0 := hcell _ _ (hf k hlt).1
      have x1 := hcell _ _ (hf k hlt).2
      have y0 := hcell' _ _ (hf k hlt).1
      have y1 := hcell' _ _ (hf k hlt).2
      rw [← Nat.add_assoc] at x1 y1
      clear hcell hcell' hf hu hv
      have i0 : (0 : Int) ≤ (k : Int) := by omega
      have i1 : (k : Int) < (n : Int) := by omega
      go_wp2
      go_quiet (fail)
      go_wp2
      go_roundw
      case rel => exact ⟨k + 1, _, by omega, by go_num, rfl⟩
      case measure => simp [intOf]; omega
    · go_wp2
      go_ret
      exact ⟨rfl, _, rfl⟩
end Go.Proofs.Ytgdbfjfnjjmfmaa

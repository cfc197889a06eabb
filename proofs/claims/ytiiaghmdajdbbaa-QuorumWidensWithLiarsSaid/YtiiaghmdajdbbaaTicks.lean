/- Contracts of ticks.Valid, interval.Valid and of their reference: a span in its bounds. Conditions: none. -/
import Derived.Test.YtiiaghmdajdbbaaMem
import Derived.WalkKit
import Derived.WalkLawsBesides
import Derived.Handy
import Derived.Outline
import Derived.Deep.QuietTactic
import Derived.BigQuiet
namespace Go.Proofs.Ytiiaghmdajdbbaa
open Go.RowKit
def vT (t : Int) : Bool := decide (-1152921504606846976 ≤ t ∧ t ≤ 1152921504606846976)
def vS (lo hi : Int) : Bool := decide (-1152921504606846976 ≤ lo ∧ hi ≤ 1152921504606846976 ∧ lo ≤ hi)
theorem vS_eq (lo hi : Int) : vS lo hi = (vT lo && vT hi && decide (lo ≤ hi)) := by
  unfold vS vT; rw [Bool.eq_iff_iff]; simp; omega
theorem validt_any (t : Int) (w : World) :
    Calls Try.prog 48 #[.int .i64 t] w fun e w' => e = .returned (.bool (vT t)) ∧ w = w' := by
  by_cases h1 : -1152921504606846976 ≤ t <;> by_cases h2 : t ≤ 1152921504606846976
  all_goals
    go_enter Try.func48, Try.ntmps48
    go_wp2
    go_ret
    exact ⟨ret_bool (by simp [vT, *]; try omega), rfl⟩
theorem rvalidt_any (t : Int) (w : World) :
    Calls Try.prog 39 #[.int .i64 t] w fun e w' => e = .returned (.bool (vT t)) ∧ w = w' := by
  by_cases h1 : -1152921504606846976 ≤ t <;> by_cases h2 : t ≤ 1152921504606846976
  all_goals
    go_enter Try.func39, Try.ntmps39
    go_wp2
    go_ret
    exact ⟨ret_bool (by simp [vT, *]; try omega), rfl⟩
theorem valid_any (lo hi : Int) (w : World) :
    Calls Try.prog 40 #[.agg #[.int .i64 lo, .int .i64 hi]] w fun e w' => e = .returned (.bool (vS lo hi)) ∧ Below w.heap.size w w' := by
  have e1 := vS_eq lo hi
  by_cases h1 : vT lo = true <;> by_cases h2 : vT hi = true
  all_goals
    go_enter Try.func40, Try.ntmps40
    go_wp2_with (go_at_call 48; refine (validt_any _ _).mono ?_; rintro e w' ⟨rfl, rfl⟩)
    go_ret
    exact ⟨ret_bool (by rw [e1]; simp [*]), (Below.refl _ _).alloc (Nat.le_refl _) _⟩
theorem rvalid_any (lo hi : Int) (w : World) :
    Calls Try.prog 29 #[.agg #[.int .i64 lo, .int .i64 hi]] w fun e w' => e = .returned (.bool (vS lo hi)) ∧ Below w.heap.size w w' := by
  have e1 := vS_eq lo hi
  by_cases h1 : vT lo = true <;> by_cases h2 : vT hi = true
  all_goals
    go_enter Try.func29, Try.ntmps29
    go_wp2_with (go_at_call 39; refine (rvalidt_any _ _).mono ?_; rintro e w' ⟨rfl, rfl⟩)
    go_ret
    exact ⟨ret_bool (by rw [e1]; simp [*]), (Below.refl _ _).alloc (Nat.le_refl _) _⟩
end Go.Proofs.Ytiiaghmdajdbbaa

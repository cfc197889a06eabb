/- What a law leans on beyond the base: contracts, plain functions, walks. Conditions: those of each theorem. -/
import Derived.Test.YtjgepckncogdaaaGreatQC1
set_option linter.unusedVariables false
set_option linter.unusedSimpArgs false
namespace Go.Proofs.YtjgepckncogdaaaGreat
set_option linter.unusedVariables false
def placeN (b : Bs) (i : Nat) : Nat := getB ((b.drop (4 * i)).take 4)
def fromN (b : Bs) (i : Nat) : Nat := if i = 0 then 0 else placeN b i
def placesOk (b : Bs) (size : Nat) : Nat → Bool
 | 0 => true
 | k + 1 => placesOk b size k && (decide (placeN b (k + 1) % 4 = 0) && decide (fromN b k ≤ placeN b (k + 1)) && decide (placeN b (k + 1) ≤ size))
def atN (b : Bs) (n size i : Nat) : Nat := if i < n then fromN b i else size
end Go.Proofs.YtjgepckncogdaaaGreat
namespace Go.Proofs.YtjgepckncogdaaaGreat
open Go Go.RowKit
set_option linter.unusedVariables false
attribute [local go_sem ↓] Go.wp_at_zero Go.wp_at_succ
theorem placesOk_get (b : Bs) (size m : Nat) (h : placesOk b size m = true) : ∀ j, j < m → placeN b (j + 1) % 4 = 0 ∧ fromN b j ≤ placeN b (j + 1) ∧ placeN b (j + 1) ≤ size := by
 induction m with
 | zero => intro j hj; omega
 | succ m ih =>
   intro j hj
   rw [placesOk] at h
   simp at h
   by_cases hjm : j = m
   · subst hjm
     exact ⟨h.2.1.1, h.2.1.2, h.2.2⟩
   · exact ih h.1 j (by omega)
theorem from_le (b : Bs) (n size : Nat) (h : placesOk b size (n - 1) = true) (i : Nat) (hi : i < n) : fromN b i ≤ size := by
 cases i with
 | zero => simp [fromN]
 | succ i =>
   have := (placesOk_get b size _ h i (by omega)).2.2
   simpa [fromN] using this
theorem at_le (b : Bs) (n size : Nat) (h : placesOk b size (n - 1) = true) (i : Nat) (hi : i < n) : atN b n size i ≤ atN b n size (i + 1) ∧ atN b n size (i + 1) ≤ size := by
 unfold atN
 rw [if_pos hi]
 by_cases h2 : i + 1 < n
 · rw [if_pos h2]
   have := placesOk_get b size _ h i (by omega)
   have e : fromN b (i + 1) = placeN b (i + 1) := by simp [fromN]
   rw [e]
   exact ⟨this.2.1, this.2.2⟩
 · rw [if_neg h2]
   exact ⟨from_le b n size h i hi, Nat.le_refl _⟩
end Go.Proofs.YtjgepckncogdaaaGreat

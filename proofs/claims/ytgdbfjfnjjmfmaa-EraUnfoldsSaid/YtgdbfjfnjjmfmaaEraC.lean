/- world.Within, ticks.Wire, and the sanity check of the statements about eras: it returns true. -/
import Derived.Test.YtgdbfjfnjjmfmaaEraB
namespace Go.Proofs.Ytgdbfjfnjjmfmaa
open Go.RowKit
theorem own_form {w : World} {base size n : Nat} {e : TypeId} {v : Value} {xs : List Value} (h : w.ownsRow base e size v n xs) (hn : 0 < n) :
    ∃ g cap, v = .slice (some ⟨g, 0, none⟩) n cap ∧ base ≤ g ∧ g < w.heap.size ∧ n ≤ cap ∧ cap ≤ 9223372036854775807 ∧ ∀ j u, xs[j]? = some u → w.cell? ⟨g, j, none⟩ = some u := by
  rcases h.2 with ⟨_, rfl⟩ | ⟨g, cap, cur, rfl, hb, hh, hc, hm, _⟩
  · omega
  · refine ⟨g, cap, rfl, hb, (Array.getElem?_eq_some_iff.1 hh).1, hc, by unfold maxLen at hm; omega, fun j u hu => ?_⟩
    have h1 : j < n * size := by
      have := (List.getElem?_eq_some_iff.1 hu).1
      rw [h.1] at this; exact this
    rw [h.cellAt j h1]; exact hu
def within (v m : Int) : Int := if m < 1 then 0 else v % m
theorem within_any (v m : Int) (hm0 : -9223372036854775808 ≤ m) (hm : m ≤ 9223372036854775807) (w : World) :
    Calls Try.prog 10 #[.int .i64 v, .int .i64 m] w fun e w' => e = .returned (.int .i64 (within v m)) ∧ w = w' := by
  by_cases h : m < 1
  · go_enter Try.func10, Try.ntmps10
    go_wp2
    go_ret
    exact ⟨ret_int (by rw [within, if_pos h]), rfl⟩
  · have hb : v.tmod m = v % m ∨ v.tmod m = v % m - m := by
      rcases Int.lt_or_le v 0 with h0 | h0
      · rw [Int.tmod_eq_emod]; split <;> simp [*] <;> omega
      · left; exact Int.tmod_eq_emod_of_nonneg h0
    have hlo : 0 ≤ v % m := Int.emod_nonneg v (by omega)
    have hhi : v % m < m := Int.emod_lt_of_pos v (by omega)
    have hB0 : -9223372036854775807 ≤ v.tmod m := by omega
    have hB1 : v.tmod m < m := by omega
    have hW : Hid (within v m = v % m) := if_neg h
    by_cases hn : v.tmod m < 0
    all_goals
      go_enter Try.func10, Try.ntmps10
      go_wp2
      go_ret
      exact ⟨ret_int (by rw [hW.out]; have := Int.emod_lt_of_pos v (show 0 < m by omega); omega), rfl⟩
theorem wire_any (t : Int) (h0 : -1152921504606846976 ≤ t) (h1 : t ≤ 1152921504606846976) (w : World) :
    Calls Try.prog 13 #[.int .i64 t] w fun e w' => e = .returned (.tuple #[.int .u64 ((t * 4096) % 18446744073709551616), .int .i64 0]) ∧ w = w' := by
  have hv : vT t = true := by unfold vT; simp; omega
  go_enter Try.func13, Try.ntmps13
  go_wp2_with (go_at_call 20; refine (validt_any _ _).mono ?_; rw [hv]; rintro e w' ⟨rfl, rfl⟩)
  go_ret2
  exact ⟨by simp only [IntKind.wrap_u64]; rw [show (t % 18446744073709551616 * 4096) % 18446744073709551616 = t * 4096 % 18446744073709551616 from by omega]; rfl, rfl⟩
theorem known_any (w : World) : Calls Try.prog 8 #[] w fun e w' => e = .returned (.bool true) ∧ Below w.heap.size w w' := by
  go_enter Try.func8, Try.ntmps8
  go_wp2_with fail
  refine (unfold_ok _ _ _ (by omega) (by omega) (by decide) (by decide) _).mono ?_
  rintro e w1 ⟨v, rfl, hown, hb1⟩
  have e1 : (last_ 4503599627370501 0 - first_ 4503599627370491 0 + 1).toNat = 1 := by decide
  have e2 : cellsOf (first_ 4503599627370491 0) 0 1 = [.int .i64 4503599627370496, .int .i64 4503599627370496] := by simp [cellsOf, lo_, hi_, first_]
  rw [e1, e2] at hown
  obtain ⟨g, cap, rfl, hg, hlt, hc1, hc2, hcell⟩ := own_form hown (by omega)
  have c0 := hcell 0 _ rfl
  have c1 := hcell 1 _ rfl
  clear hcell hown
  go_wp2_with fail
  refine (near_ok _ _ (by omega) (by omega) (by omega) (by omega) _).mono ?_
  rintro e w2 ⟨K, rfl, hK, hb2⟩
  obtain rfl : K = 0 := by
    have := hK.1; have := hK.2.1; have := hK.2.2 0 (by omega) (by omega)
    simp only [dist, lo_, hi_] at this
    omega
  have hz2 := hb2.size
  have hz1 := hb1.size
  have d0 := (hb2.cell (p := ⟨g, 0, none⟩) (by dsimp only; omega)).trans c0
  have d1 := (hb2.cell (p := ⟨g, 1, none⟩) (by dsimp only; omega)).trans c1
  have hbw := hb1.trans (hb2.mono (by have := hb1.size; omega))
  have el : lo_ 0 4294967296 = 1048576 := by decide
  have eh : hi_ 0 4294967296 = 1048576 := by decide
  rw [el, eh]
  have f0 : ∀ o, (w2.alloc o).cell? ⟨g, 0, none⟩ = some (.int .i64 4503599627370496) := fun o => (World.cell?_alloc_lt w2 o _ (by dsimp only; omega)).trans d0
  have f1 : ∀ o, (w2.alloc o).cell? ⟨g, 1, none⟩ = some (.int .i64 4503599627370496) := fun o => (World.cell?_alloc_lt w2 o _ (by dsimp only; omega)).trans d1
  clear d0 d1 hK c0 c1 hb1 hb2 el eh
  go_wp2
  go_ret
  exact ⟨ret_bool (by rw [beq_iff_eq]; go_arith), hbw.alloc (by omega) _⟩
end Go.Proofs.Ytgdbfjfnjjmfmaa

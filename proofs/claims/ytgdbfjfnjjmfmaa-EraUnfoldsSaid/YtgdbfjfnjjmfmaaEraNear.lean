/- The walk of the statement EraNear: for every instant and every timestamp it returns true. -/
import Derived.Test.YtgdbfjfnjjmfmaaEraC
import Derived.WalkKit
import Derived.ProofKit
import Derived.OpenShut
namespace Go.Proofs.Ytgdbfjfnjjmfmaa
open Go.RowKit
theorem near_facts {t a K : Int} (h : nearRel ((t - a / 4096) / 4503599627370496) t a 3 K) (_h0 : 0 ≤ a) (_h1 : a < 18446744073709551616) :
    (lo_ K a ≤ hi_ K a ∧ hi_ K a ≤ lo_ K a + 1) ∧
    ((lo_ K a ≤ t ∧ t < lo_ K a + 4503599627370496 ∧ t - hi_ K a ≤ lo_ K a + 4503599627370496 - t) ∨
     (t < lo_ K a ∧ lo_ K a - 4503599627370496 ≤ t ∧ lo_ K a - t ≤ t - hi_ K a + 4503599627370496)) := by
  obtain ⟨k0, k1, hk⟩ := h
  have d0 := hk ((t - a / 4096) / 4503599627370496) (by omega) (by omega)
  have d1 := hk ((t - a / 4096) / 4503599627370496 + 1) (by omega) (by omega)
  simp only [dist, lo_, hi_] at *
  omega
theorem near_wire {t a K : Int} (h : nearRel ((t - a / 4096) / 4503599627370496) t a 3 K) (ha : a = (t * 4096) % 18446744073709551616) : lo_ K a = t ∧ hi_ K a = t := by
  obtain ⟨k0, k1, hk⟩ := h
  have d0 := hk ((t - a / 4096) / 4503599627370496) (by omega) (by omega)
  simp only [dist, lo_, hi_] at *
  omega
theorem within_lo (v m : Int) (h : 1 ≤ m) : 0 ≤ within v m ∧ within v m < m := by
  rw [within, if_neg (by omega)]
  exact ⟨Int.emod_nonneg v (by omega), Int.emod_lt_of_pos v (by omega)⟩
def NearLawPost (w : World) (e : Ending) (w' : World) : Prop := e = .returned (.bool true) ∧ Below w.heap.size w w'
set_option maxRecDepth 100000 in
theorem near_law (a0 a1 : Int) (_w0 : (Lit.int .i64 a0).wf = true) (w1 : (Lit.int .u64 a1).wf = true) (w : World) :
    Calls Try.prog 6 #[.int .i64 a0, .int .u64 a1] w (NearLawPost w) := by
  have b1 := bounds_u64 w1
  have ht := within_lo a0 288230376151711744 (by omega)
  go_enter Try.func6, Try.ntmps6
  go_wp2_with fail
  refine (within_any _ _ (by omega) (by omega) _).mono ?_
  rintro e w' ⟨rfl, rfl⟩
  generalize within a0 288230376151711744 = t at ht ⊢
  obtain ⟨ht0, ht1⟩ := ht
  go_wp2_with fail
  refine (near_ok _ _ (by omega) (by omega) (by omega) (by omega) _).mono ?_
  rintro e w2 ⟨K, rfl, hK, hb2⟩
  obtain ⟨⟨hw0, hw1⟩, hf⟩ := near_facts hK (by omega) (by omega)
  generalize lo_ K a1 = L at hw0 hw1 hf ⊢
  generalize hi_ K a1 = H at hw0 hw1 hf ⊢
  clear hK
  rcases hf with ⟨f1, f2, f3⟩ | ⟨f1, f2, f3⟩
  all_goals
    go_wp2_with (go_at_call 13; refine (wire_any _ (by omega) (by omega) _).mono ?_; rintro e w' ⟨rfl, rfl⟩)
  all_goals
    refine (near_ok _ _ (by omega) (by omega) (by omega) (by omega) _).mono ?_
    rintro e w4 ⟨K', rfl, hK', hb4⟩
    obtain ⟨e1, e2⟩ := near_wire hK' rfl
    rw [e1, e2]
    clear e1 e2 hK'
    have hz2 := hb2.size
    have hz4 := hb4.size
    go_wp2_with fail
    refine (known_any _).mono ?_
    rintro e w5 ⟨rfl, hb5⟩
    have c0 := (hb5.cell (p := ⟨w4.heap.size, 0, none⟩) (by simp)).trans (World.cell?_alloc_at _ _ _ _ rfl)
    have c1 := (hb5.cell (p := ⟨w4.heap.size, 1, none⟩) (by simp)).trans (World.cell?_alloc_at _ _ _ _ rfl)
    have hbf : Below w.heap.size w w5 := (((hb2.alloc hz2 _).trans (hb4.mono (by simp; omega))).alloc (by simp at hz4; omega) _).trans (hb5.mono (by simp at hz4; simp; omega))
    clear hb2 hb4 hb5
    go_wp2
    go_ret
    exact ⟨rfl, hbf⟩
end Go.Proofs.Ytgdbfjfnjjmfmaa

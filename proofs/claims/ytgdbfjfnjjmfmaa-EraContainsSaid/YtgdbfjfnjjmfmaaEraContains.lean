/- The walk of the statement EraContains: for every instant and every two widths it returns true. -/
import Derived.Test.YtgdbfjfnjjmfmaaEraNear
namespace Go.Proofs.Ytgdbfjfnjjmfmaa
open Go.RowKit
def OnlyPost (L H : Int) (w : World) (e : Ending) (w' : World) : Prop := e = .returned (.tuple #[.agg #[.int .i64 L, .int .i64 H], .int .i64 0]) ∧ Below w.heap.size w w'
theorem cellsOf_one (k a : Int) : cellsOf k a 1 = [.int .i64 (lo_ k a), .int .i64 (hi_ k a)] := by simp [cellsOf]
set_option maxRecDepth 100000 in
theorem only_one' (lo hi a L H : Int) (hL : Hid (lo_ (first_ lo a) a = L)) (hH : Hid (hi_ (first_ lo a) a = H)) (h0 : 0 ≤ a) (h1 : a < 18446744073709551616) (hv : vS lo hi = true) (hl : last_ hi a = first_ lo a) (w : World) :
    Calls Try.prog 15 #[.agg #[.int .i64 lo, .int .i64 hi], .int .u64 a] w (OnlyPost L H w) := by
  go_enter Try.func15, Try.ntmps15
  go_wp2_with fail
  refine (unfold_ok _ _ _ (by omega) (by omega) hv (by omega) _).mono ?_
  rintro e w1 ⟨v, rfl, hown, hb1⟩
  have e1 : (last_ hi a - first_ lo a + 1).toNat = 1 := by omega
  rw [e1, cellsOf_one] at hown
  obtain ⟨g, cap, rfl, hg, hlt, hc1, hc2, hcell⟩ := own_form hown (by omega)
  have c0 := hcell 0 _ rfl
  have c1 := hcell 1 _ rfl
  have hz1 := hb1.size
  have r0 := (hb1.cell (p := ⟨w.heap.size + 1, 0, none⟩) (by simp)).trans (World.cell?_alloc_at _ _ _ _ (by simp))
  have r1 := (hb1.cell (p := ⟨w.heap.size + 1, 1, none⟩) (by simp)).trans (World.cell?_alloc_at _ _ _ _ (by simp))
  have rf : ∀ o, w1.frozen? ⟨w.heap.size + 1, o, none⟩ = false := fun o => (hb1.frozen (p := ⟨w.heap.size + 1, o, none⟩) (by simp)).trans (World.frozen?_alloc_at _ _ _ _ (by simp))
  have hbf : Below w.heap.size w w1 := (((Below.refl _ _).alloc (Nat.le_refl _) _).alloc (by simp) _).trans (hb1.mono (by simp; omega))
  clear hl hv e1 hcell hown hb1
  rw [hL.out] at c0
  rw [hH.out] at c1
  unfold OnlyPost
  go_wp2
  refine bodyPost_ret (v := .tuple #[.agg #[.int .i64 L, .int .i64 H], .int .i64 0]) (by simp [results, Try.results15, go_sem, r0, r1]) rfl ?_
  exact ⟨rfl, (hbf.setCell (by simp) _).setCell (by simp) _⟩
theorem only_one (lo hi a : Int) (h0 : 0 ≤ a) (h1 : a < 18446744073709551616) (hv : vS lo hi = true) (hl : last_ hi a = first_ lo a) (w : World) :
    Calls Try.prog 15 #[.agg #[.int .i64 lo, .int .i64 hi], .int .u64 a] w (OnlyPost (lo_ (first_ lo a) a) (hi_ (first_ lo a) a) w) := only_one' lo hi a _ _ rfl rfl h0 h1 hv hl w
set_option maxRecDepth 100000 in
theorem contains_law (a0 a1 a2 : Int) (_w0 : (Lit.int .i64 a0).wf = true) (_w1 : (Lit.int .i64 a1).wf = true) (_w2 : (Lit.int .i64 a2).wf = true) (w : World) :
    Calls Try.prog 7 #[.int .i64 a0, .int .i64 a1, .int .i64 a2] w (NearLawPost w) := by
  have ht := within_lo a0 288230376151711744 (by omega)
  have hp := within_lo a1 2251799813685246 (by omega)
  have hq := within_lo a2 2251799813685246 (by omega)
  go_enter Try.func7, Try.ntmps7
  go_wp2_with (go_at_call 10; refine (within_any _ _ (by omega) (by omega) _).mono ?_; rintro e w' ⟨rfl, rfl⟩)
  generalize within a0 288230376151711744 = t at ht ⊢
  generalize within a1 2251799813685246 = p at hp ⊢
  generalize within a2 2251799813685246 = q at hq ⊢
  obtain ⟨ht0, ht1⟩ := ht
  obtain ⟨hp0, hp1⟩ := hp
  obtain ⟨hq0, hq1⟩ := hq
  refine (wire_any _ (by omega) (by omega) _).mono ?_
  rintro e w' ⟨rfl, rfl⟩
  have f1 : first_ (t - p) ((t * 4096) % 18446744073709551616) = t / 4503599627370496 := by unfold first_; omega
  have f2 : last_ (t + q) ((t * 4096) % 18446744073709551616) = t / 4503599627370496 := by unfold last_; omega
  have f3 : lo_ (t / 4503599627370496) ((t * 4096) % 18446744073709551616) = t := by unfold lo_; omega
  have f4 : hi_ (t / 4503599627370496) ((t * 4096) % 18446744073709551616) = t := by unfold hi_; omega
  have hv : vS (t - p) (t + q) = true := by unfold vS; simp; omega
  have F1 := Lib.hid f1
  have F2 := Lib.hid f2
  have F3 := Lib.hid f3
  have F4 := Lib.hid f4
  have HV := Lib.hid hv
  have hA0 : 0 ≤ (t * 4096) % 18446744073709551616 := by omega
  have hA1 : (t * 4096) % 18446744073709551616 < 18446744073709551616 := by omega
  clear f1 f2 f3 f4 hv
  generalize (t * 4096) % 18446744073709551616 = A at *
  go_wp2_with fail
  refine (only_one _ _ _ (by omega) (by omega) HV.out (by rw [F1.out, F2.out]) _).mono ?_
  rw [F1.out, F3.out, F4.out]
  rintro e w2 ⟨rfl, hb2⟩
  have hz2 := hb2.size
  simp at hz2
  have hbw2 : Below w.heap.size w w2 := ((Below.refl _ _).alloc (Nat.le_refl _) _).trans (hb2.mono (by simp))
  have s0 : ∀ o, (w2.alloc o).cell? ⟨w.heap.size, 0, none⟩ = some (.int .i64 (t - p)) := fun o => (World.cell?_alloc_lt w2 o _ (by dsimp only; omega)).trans ((hb2.cell (p := ⟨w.heap.size, 0, none⟩) (by simp)).trans (World.cell?_alloc_at _ _ _ _ rfl))
  have s1 : ∀ o, (w2.alloc o).cell? ⟨w.heap.size, 1, none⟩ = some (.int .i64 (t + q)) := fun o => (World.cell?_alloc_lt w2 o _ (by dsimp only; omega)).trans ((hb2.cell (p := ⟨w.heap.size, 1, none⟩) (by simp)).trans (World.cell?_alloc_at _ _ _ _ rfl))
  clear hb2
  go_wp2_with fail
  refine (unfold_ok _ _ _ (by omega) (by omega) HV.out (by rw [F1.out, F2.out]; omega) _).mono ?_
  rw [F1.out, F2.out]
  rintro e w3 ⟨v, rfl, hown, hb3⟩
  obtain ⟨g, cap, rfl, hg, hlt, hc1, hc2, hcell⟩ := own_form hown (by omega)
  have e1 : (t / 4503599627370496 - t / 4503599627370496 + 1).toNat = 1 := by omega
  rw [e1]
  have hz3 := hb3.size
  simp at hz3
  have r0 := (hb3.cell (p := ⟨w2.heap.size, 0, none⟩) (by simp)).trans (World.cell?_alloc_at _ _ _ _ rfl)
  have r1 := (hb3.cell (p := ⟨w2.heap.size, 1, none⟩) (by simp)).trans (World.cell?_alloc_at _ _ _ _ rfl)
  have hbw3 : Below w.heap.size w w3 := (hbw2.alloc (by omega) _).trans (hb3.mono (by simp; omega))
  clear hown hcell hb3 s0 s1 e1
  go_wp2_with fail
  refine (known_any _).mono ?_
  rintro e w4 ⟨rfl, hb4⟩
  have q0 := (hb4.cell (p := ⟨w2.heap.size, 0, none⟩) (by dsimp only; omega)).trans r0
  have q1 := (hb4.cell (p := ⟨w2.heap.size, 1, none⟩) (by dsimp only; omega)).trans r1
  go_wp2
  go_ret
  exact ⟨rfl, hbw3.trans (hb4.mono (by omega))⟩
end Go.Proofs.Ytgdbfjfnjjmfmaa

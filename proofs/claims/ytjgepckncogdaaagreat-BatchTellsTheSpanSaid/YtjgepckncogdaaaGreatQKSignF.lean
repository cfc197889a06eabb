/- What a law leans on beyond the base: contracts, plain functions, walks. Conditions: those of each theorem. -/
import Derived.Test.YtjgepckncogdaaaGreatQC1
set_option linter.unusedVariables false
set_option linter.unusedSimpArgs false
namespace Go.Proofs.YtjgepckncogdaaaGreat
open Go Go.RowKit
set_option linter.unusedVariables false
set_option linter.unusedSimpArgs false
attribute [local go_sem ↓] Go.wp_at_zero Go.wp_at_succ
def KeyPostF (seed : Bs) (h : Int) (w : World) (e : Ending) (w' : World) : Prop :=
 ∃ v, e = .returned (.tuple #[v, .int .i64 (pubC seed h)]) ∧ SeesB w' w'.heap.size v (pubG seed h) ∧ From w.heap.size v ∧ Below w.heap.size w w'
set_option maxRecDepth 100000 in
theorem rpublicF_any (B : Nat) (u : Value) (seed : Bs) (h : Int) (w : World) (hu : SeesB w B u seed) (hB : B ≤ w.heap.size) (hl : seed.length = 32) (hh : 0 ≤ h ∧ h ≤ 6) :
 Calls Tryz.prog 66 #[u, .int .i64 h] w (KeyPostF seed h w) := by
 obtain ⟨h0, h1⟩ := hh
 obtain ⟨k, rfl⟩ := Int.eq_ofNat_of_zero_le h0
 have hc := rleaves_any B u seed k w hu hB hl (by omega)
 have hv : Hid (pubC seed k = 0) := by show _ = _; simp [pubC, hl]; omega
 have hv2 : Hid (pubG seed k = keyG seed k) := by show _ = _; simp [pubG, hl]; omega
 have j0 : decide ((k : Int) < 0) = false := by simp
 have j1 : ¬ ((6 : Int) < (k : Int)) := by omega
 replace hc : Hid (Calls _ _ _ _ (GivesL (leavesL seed (2 ^ k)) w)) := hc
 have hlen := leavesL_len seed (2 ^ k)
 have hp := pow_le64 k (by omega)
 have hel := Lib.hid (leavesL_el seed (2 ^ k))
 obtain ⟨A, c, rfl, -, -⟩ := hu.mk_
 rw [hl] at hc ⊢
 clear hu hl
 rw [← key_root] at hv2
 generalize leavesL seed (2 ^ k) = ls at *
 go_enter Tryz.func66, Tryz.ntmps66
 go_wp2_with fail
 refine hc.out.mono ?_
 rintro e w1 ⟨v, rfl, k1, hb1⟩
 dsimp only
 go_wp2_with fail
 refine (rroot_top ls _ _ _ k1.sees (Nat.le_refl _) (by omega) (fun l hx => by have := hel.out l hx; omega)).mono ?_
 rintro e w2 ⟨v2, rfl, h2, hb2⟩
 dsimp only
 go_wp2_with fail
 go_returns
 exact ⟨v2, by rw [hv.out]; rfl, by rw [hv2.out]; exact h2.sees, h2.from.mono hb1.size, bgo hb1 hb2⟩
end Go.Proofs.YtjgepckncogdaaaGreat

/- What a law leans on beyond the base: contracts, plain functions, walks. Conditions: those of each theorem. -/
import Derived.Test.YtgehkgjllhkhoaaGreatLHonest
import Derived.Test.YtgehkgjllhkhoaaGreatLTape
namespace Go.Proofs.YtgehkgjllhkhoaaGreat
open Go Go.RowKit
set_option linter.unusedVariables false
theorem dans_one_ok {sd2 nn S : Bs} {h2 : Nat} {f t lo hi : Int} (hl : sd2.length = 32) (hh : h2 ≤ 6) (hn : nn.length = 32) (hv : vS lo hi = true) (hS : fitsG S = true) (hw : vS f t = true) (hi' : inS lo hi f t = true) :
 dansR sd2 (h2 : Int) 0 (keyG sd2 h2) f t S [nn] lo hi = (((sd2, (h2 : Int), 1), (keyG sd2 h2, f, t, S)), [wrapB (dencB (keyG sd2 h2) f t S) (ansB [nn] (sigG sd2 h2 0 (tBatch ++ partG [nn] lo hi)) (partG [nn] lo hi) 0)], 0) ∧
  encC (wrapT (ansB [nn] (sigG sd2 h2 0 (tBatch ++ partG [nn] lo hi)) (partG [nn] lo hi) 0) (dencB (keyG sd2 h2) f t S)) = 0 := by
 have hd := dans_first (sd := sd2) (P := keyG sd2 h2) (S := S) (h := (h2 : Int)) (f := f) (t := t) (ns := [nn]) (lo := lo) (hi := hi) hl (by omega) (by omega) (by simp) (by simp) (by intro l hl; simp at hl; rw [hl]; exact hn) hv (keyG_len _ _) hS hw hi'
 rw [Int.toNat_natCast] at hd
 refine ⟨hd, ?_⟩
 have h2' := ansL_props [nn] (sigG sd2 h2 0 (tBatch ++ partG [nn] lo hi)) (partG [nn] lo hi) 1 (ansB [nn] (sigG sd2 h2 0 (tBatch ++ partG [nn] lo hi)) (partG [nn] lo hi) 0) (by simp [ansL])
 have h3 := ans_le [nn] (sigG sd2 h2 0 (tBatch ++ partG [nn] lo hi)) (partG [nn] lo hi) 0 (by rw [sigG_len]; omega) (part_le [nn] lo hi)
 have h4 := denc_le (keyG sd2 h2) f t S (keyG_len _ _) (head_le S hS)
 rw [List.length_singleton] at h3
 exact wrap_fits _ _ h2'.2 (denc_mod _ f t S) (by omega)
theorem pubG_key (sd : Bs) (h : Nat) (hl : sd.length = 32) (hh : h ≤ 6) : pubG sd (h : Int) = keyG sd h := by
 unfold pubG
 rw [if_pos ⟨hl, by omega, by omega⟩, Int.toNat_natCast]
end Go.Proofs.YtgehkgjllhkhoaaGreat

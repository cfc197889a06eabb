/- What a law leans on beyond the base: contracts, plain functions, walks. Conditions: those of each theorem. -/
import Derived.Test.YtgehkgjllhkhoaaGreatLHonK
namespace Go.Proofs.YtgehkgjllhkhoaaGreat
open Go Go.RowKit
set_option linter.unusedVariables false
theorem grant_at1 {sd p : Bs} {f t : Int} (h1 : sd.length = 32) (h2 : p.length = 32) (h3 : vS f t = true) :
 grantR sd 1 0 p f t = ((sd, 1, 1), (p, f, t, sigG sd 1 0 (tGrant ++ p ++ spanB f t)), 0) ∧ grantR sd 1 1 p f t = ((sd, 1, 2), (p, f, t, sigG sd 1 1 (tGrant ++ p ++ spanB f t)), 0) := by
 have hv0 : validI sd 1 0 = true := by unfold validI; simp [h1]
 have hv1 : validI sd 1 1 = true := by unfold validI; simp [h1]
 have hs0 : ∀ m, signAll sd 1 0 m = (sd, 1, 1, sigG sd 1 0 m, 0) := fun m => by
  unfold signAll
  rw [if_pos hv0, if_neg (by decide)]
  rfl
 have hs1 : ∀ m, signAll sd 1 1 m = (sd, 1, 2, sigG sd 1 1 m, 0) := fun m => by
  unfold signAll
  rw [if_pos hv1, if_neg (by decide)]
  rfl
 refine ⟨?_, ?_⟩
 · unfold grantR
   rw [if_pos hv0, if_pos h2, if_pos h3, hs0]
   rfl
 · unfold grantR
   rw [if_pos hv1, if_pos h2, if_pos h3, hs1]
   rfl
theorem four_vS {a b : Int} (h : 0 ≤ a ∧ a ≤ b ∧ b ≤ 4000) : vS a b = true := by
 unfold vS
 rw [decide_eq_true_iff]
 omega
theorem four_inS {a b f t : Int} (h : 0 ≤ a ∧ a ≤ b ∧ b ≤ 4000) (h2 : 0 ≤ f ∧ f ≤ t ∧ t ≤ 4000) : inS a b f t = (decide (f ≤ a) && decide (b ≤ t)) := by
 unfold inS
 rw [four_vS h, four_vS h2]
 rfl
theorem denc_exact {P S : Bs} {f t : Int} (hd : dencC P f t S = 0) (hP : P.length = 32) (hS : S.length = 597) : (dencB P f t S).length = 672 := by
 unfold dencB
 rw [if_pos hd, bodyT_len _ (by intro x hx; simp only [dtags, List.mem_cons, List.not_mem_nil, or_false] at hx; rcases hx with rfl | rfl | rfl <;> rfl) (by simp [dtags])]
 simp only [dtags, dataT, List.map_cons, List.map_nil, List.flatten_cons, List.flatten_nil, List.length_append, List.length_nil, List.length_cons, spanB_len, pad4_len, hP, hS]
 try omega
theorem wrap_body {a c : Bs} (he : encC (wrapT a c) = 0) : wrapB c a = (putB 4 2 ++ putB 4 a.length ++ (nANSW ++ nCERT) ++ a) ++ c := by
 unfold wrapB encT
 rw [if_pos he]
 simp [bodyT, wrapT, placesT, namesT, dataT, List.append_assoc]
theorem wrap_exact {a c : Bs} (he : encC (wrapT a c) = 0) : (wrapB c a).length = 16 + a.length + c.length := by
 rw [wrap_body he]
 simp only [List.length_append, putB_len]
 show 4 + 4 + (4 + 4) + a.length + c.length = _
 omega
theorem wrap_swap {a c d : Bs} (h1 : encC (wrapT a c) = 0) (h2 : encC (wrapT a d) = 0) (hl : c.length = d.length) : (wrapB c a).take ((wrapB c a).length - d.length) ++ d = wrapB d a := by
 rw [wrap_body h1, wrap_body h2, ← hl]
 congr 1
 rw [List.length_append, Nat.add_sub_cancel, List.take_left]
theorem win_plain {sd sd2 nn : Bs} {f t lo hi : Int} (l1 : sd.length = 32) (l2 : sd2.length = 32) (hn : nn.length = 32) (hw : 0 ≤ f ∧ f ≤ t ∧ t ≤ 4000) (hv : 0 ≤ lo ∧ lo ≤ hi ∧ hi ≤ 2000) : ∃ S1 S2 : Bs,
 grantR sd 1 0 (pubG sd2 1) f t = ((sd, 1, 1), (pubG sd2 1, f, t, S1), 0) ∧ grantR sd 1 1 (pubG sd2 1) 0 2000 = ((sd, 1, 2), (pubG sd2 1, 0, 2000, S2), 0) ∧
 S1.length = 597 ∧ S2.length = 597 ∧ (dencB (pubG sd2 1) f t S1).length = 672 ∧ dencC (pubG sd2 1) f t S1 = 0 ∧
 ((decide (f ≤ lo) && decide (hi ≤ t)) = true → ∃ y : Bs, dansR sd2 1 0 (pubG sd2 1) f t S1 [nn] lo hi = (((sd2, 1, 1), (pubG sd2 1, f, t, S1)), [y], 0) ∧ y.length ≤ 2048 ∧ dverC (pubG sd 1) nn y = 0 ∧ dverLo (pubG sd 1) nn y = lo ∧ dverHi (pubG sd 1) nn y = hi) ∧
 ((decide (f ≤ lo) && decide (hi ≤ t)) = false → dansR sd2 1 0 (pubG sd2 1) f t S1 [nn] lo hi = (noGrant, [], 25) ∧ ∃ y : Bs, dansR sd2 1 0 (pubG sd2 1) 0 2000 S2 [nn] lo hi = (((sd2, 1, 1), (pubG sd2 1, 0, 2000, S2)), [y], 0) ∧ 700 ≤ y.length ∧ y.length ≤ 2048 ∧ (y.take (y.length - 672) ++ dencB (pubG sd2 1) f t S1).length ≤ 2048 ∧ dverC (pubG sd 1) nn (y.take (y.length - 672) ++ dencB (pubG sd2 1) f t S1) = 25) := by
 have p1 : pubG sd 1 = keyG sd 1 := pubG_key sd 1 l1 (by omega)
 have p2 : pubG sd2 1 = keyG sd2 1 := pubG_key sd2 1 l2 (by omega)
 have hP : (keyG sd2 1).length = 32 := keyG_len _ _
 have v1 := four_vS hw
 have v2 : vS 0 2000 = true := four_vS (by omega)
 have v3 := four_vS (a := lo) (b := hi) (by omega)
 rw [p1, p2]
 obtain ⟨S1, hS1⟩ : ∃ S, S = sigG sd 1 0 (tGrant ++ keyG sd2 1 ++ spanB f t) := ⟨_, rfl⟩
 obtain ⟨S2, hS2⟩ : ∃ S, S = sigG sd 1 1 (tGrant ++ keyG sd2 1 ++ spanB 0 2000) := ⟨_, rfl⟩
 have f1 : fitsG S1 = true := by rw [hS1]; exact head_sig _ _ _ _ (by omega)
 have f2 : fitsG S2 = true := by rw [hS2]; exact head_sig _ _ _ _ (by omega)
 have L1 : S1.length = 597 := by rw [hS1, sigG_len]
 have L2 : S2.length = 597 := by rw [hS2, sigG_len]
 have d1 : dencC (keyG sd2 1) f t S1 = 0 := by unfold dencC; rw [if_pos hP, v1, f1]; rfl
 have d2 : dencC (keyG sd2 1) 0 2000 S2 = 0 := by unfold dencC; rw [if_pos hP, v2, f2]; rfl
 have e1 := denc_exact d1 hP L1
 have e2 := denc_exact d2 hP L2
 refine ⟨S1, S2, ?_, ?_, L1, L2, e1, d1, ?_, ?_⟩
 · rw [hS1]; exact (grant_at1 l1 hP v1).1
 · rw [hS2]; exact (grant_at1 l1 hP v2).2
 · intro hin
   have hi1 : inS lo hi f t = true := by rw [four_inS (by omega) hw]; exact hin
   obtain ⟨g1, g2⟩ := dans_one_ok (sd2 := sd2) (nn := nn) (S := S1) (h2 := 1) l2 (by omega) hn v3 f1 v1 hi1
   have hh := dver_honest sd sd2 1 0 1 0 f t lo hi [nn] 0 (by omega) (by omega) (by omega) (by omega) v1 v3 hi1 (by simp) (by simp) hn S1 hS1 g2
   exact ⟨_, g1, encT_len _, hh.1, hh.2.1, hh.2.2⟩
 · intro hin
   have hi1 : inS lo hi f t = false := by rw [four_inS (by omega) hw]; exact hin
   have hi2 : inS lo hi 0 2000 = true := by rw [four_inS (by omega) (by omega), decide_eq_true (by omega), decide_eq_true (by omega)]; rfl
   have ha := answer_first (sd := sd2) (h := 1) (ns := [nn]) (lo := lo) (hi := hi) l2 (by omega) (by omega) (by simp) (by simp) (by intro l hl; simp at hl; rw [hl]; exact hn) v3
   refine ⟨?_, ?_⟩
   · unfold dansR
     rw [if_pos d1, ha, if_pos rfl, hi1]
     rfl
   · obtain ⟨g1, g2⟩ := dans_one_ok (sd2 := sd2) (nn := nn) (S := S2) (h2 := 1) l2 (by omega) hn v3 f2 v2 hi2
     have q1 := ansL_props [nn] (sigG sd2 1 0 (tBatch ++ partG [nn] lo hi)) (partG [nn] lo hi) 1 (ansB [nn] (sigG sd2 1 0 (tBatch ++ partG [nn] lo hi)) (partG [nn] lo hi) 0) (by simp [ansL])
     have q2 := ans_le [nn] (sigG sd2 1 0 (tBatch ++ partG [nn] lo hi)) (partG [nn] lo hi) 0 (by rw [sigG_len]; omega) (part_le [nn] lo hi)
     rw [List.length_singleton] at q2
     have g3 : encC (wrapT (ansB [nn] (sigG sd2 1 0 (tBatch ++ partG [nn] lo hi)) (partG [nn] lo hi) 0) (dencB (keyG sd2 1) f t S1)) = 0 := wrap_fits _ _ q1.2 (denc_mod _ f t S1) (by omega)
     have q3 := wrap_exact g2
     have q4 := wrap_exact g3
     have hsw := wrap_swap g2 g3 (by omega)
     have hh := dver_outside sd sd2 1 0 1 0 f t lo hi [nn] 0 (by omega) (by omega) (by omega) (by omega) v1 v3 hi1 (by simp) (by simp) hn S1 hS1 g3
     have q5 : 100 ≤ (ansB [nn] (sigG sd2 1 0 (tBatch ++ partG [nn] lo hi)) (partG [nn] lo hi) 0).length := by
      have ho := atags_ok [nn] (sigG sd2 1 0 (tBatch ++ partG [nn] lo hi)) (partG [nn] lo hi) 0 (by rw [sigG_len]; omega) (part_le [nn] lo hi) (part_mod [nn] lo hi) (by simp)
      have h5 := pad4_len (sigG sd2 1 0 (tBatch ++ partG [nn] lo hi))
      rw [sigG_len] at h5
      unfold ansB encT
      rw [if_pos ho, bodyT_len _ (by intro x hx; simp only [ansTags, List.mem_cons, List.not_mem_nil, or_false] at hx; rcases hx with rfl | rfl | rfl | rfl | rfl <;> rfl) (by simp [ansTags])]
      simp only [ansTags, dataT, List.map_cons, List.map_nil, List.flatten_cons, List.flatten_nil, List.length_append, List.length_nil, List.length_cons]
      omega
     rw [e1] at hsw
     refine ⟨_, g1, ?_, encT_len _, ?_, ?_⟩
     · omega
     · rw [hsw]; exact encT_len _
     · rw [hsw]; exact hh
end Go.Proofs.YtgehkgjllhkhoaaGreat

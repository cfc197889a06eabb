/- The plain law of DelegateIsBoundToItsKey: an answer is accepted for the key that has granted, and refused for another one, for another nonce, and for a key cut short. Conditions: numbers below 500 and 50. -/
import Derived.Test.YtamdgjgommejjaaGreatDVX
import Derived.Test.YtamdgjgommejjaaGreatDVN
import Derived.Test.YtamdgjgommejjaaGreatDB
namespace Go.Proofs.YtamdgjgommejjaaGreat
open Go Go.RowKit
set_option linter.unusedVariables false
theorem rec_endsK (seed : Bs) (i : Nat) (d e : Bs) : ∀ n, n ≤ 35 → recEnds e (signL seed i d) n = V.endsK seed i (V.ksD d e) n := by
  intro n
  induction n with
  | zero => intro _; rfl
  | succ n ih =>
    intro hn
    rw [recEnds, V.endsK, ih (by omega), signL_get _ _ _ _ (by omega), chainH_add]
    rfl
theorem keyG_nil (sd : Bs) : keyG sd 0 = leafH (otPublic sd 0) := by
  unfold keyG hashesG leavesL
  exact rootG_one _
/-- A signature of one key looked at under another one. -/
theorem ver_other (sd U m : Bs) (h : leafH (short (V.endsK sd 0 (V.ksD (digG (keyG sd 0) 0 m) (digG U 0 m)) 35)) ≠ U) : verifyG U m (sigG sd 0 0 m) = false := by
  rw [verifyG, parts_sig sd 0 0 _ (by decide) (by decide)]
  simp only
  rw [recG, rec_endsK sd 0 _ _ 35 (Nat.le_refl _), checkG, pathG_one _ _ (by rw [hashesG_len]; decide), climbG_one _ _ _ _ (by decide)]
  have e : decide (leafH (short (V.endsK sd 0 (V.ksD (digG (keyG sd 0) 0 m) (digG U 0 m)) 35)) = U) = false := decide_eq_false h
  show (decide (U.length = 32) && decide (m.length ≤ 65535) && (decide (0 = ([] : List Bs).length) && decide (leafH (short (V.endsK sd 0 (V.ksD (digG (keyG sd 0) 0 m) (digG U 0 m)) 35)) = U))) = false
  rw [e, Bool.and_false, Bool.and_false]
theorem seed_rand (x : Nat) (h : x < 4294967296) : randK (x : Int) 32 = V.seedB x := (V.seedB_rand x h).symm
theorem keyP_of (x : Nat) (h : x < 100000) : keyG (randK ((x : Int) + 100) 32) 0 = V.keyP x := by
  rw [show (x : Int) + 100 = ((100 + x : Nat) : Int) by omega, seed_rand _ (by omega), keyG_nil]
  rfl
/-- A grant of a key is refused for another one. -/
theorem grant_other (v w : Nat) (hv : v < 500) (hw : w < 50) :
    verifyG (keyG (randK (((v + 501 + w : Nat) : Int) + 100) 32) 0) (tGrant ++ keyG (randK ((v : Int) + 1100) 32) 0 ++ spanB 0 99) (sigG (randK ((v : Int) + 100) 32) 0 0 (tGrant ++ keyG (randK ((v : Int) + 1100) 32) 0 ++ spanB 0 99)) = false := by
  have e1 : keyG (randK ((v : Int) + 1100) 32) 0 = V.keyP (1000 + v) := by rw [show (v : Int) + 1100 = ((1000 + v : Nat) : Int) + 100 by omega]; exact keyP_of _ (by omega)
  have e2 := keyP_of (v + 501 + w) (by omega)
  have e3 := keyP_of v (by omega)
  rw [e1, e2]
  refine ver_other _ _ _ ?_
  rw [e3, show (v : Int) + 100 = ((100 + v : Nat) : Int) by omega, seed_rand _ (by omega), show v + 501 + w = 501 + v + w by omega]
  exact V.other_ne v w hv hw
theorem dver_wrap2 (sd : Bs) (h m : Nat) (P : Bs) (f t : Int) (hh : h ≤ 6) (hm : m < 2 ^ h) (hP : P.length = 32) (hw : vS f t = true) (S : Bs) (hS : S = sigG sd h m (tGrant ++ P ++ spanB f t)) (l n a : Bs) (he : encC (wrapT a (dencB P f t S)) = 0) :
    dverC l n (wrapB (dencB P f t S) a) = if dcheckC l P f t S = 0 then dver2C n a P f t else dcheckC l P f t S := by
  obtain ⟨q1, q2, q3, q4, q5, q6, q7⟩ := del_honest sd h m P f t hh hm hP hw S hS
  obtain ⟨d1, d2⟩ := dec_enc _ he
  have hb : wrapB (dencB P f t S) a = encT (wrapT a (dencB P f t S)) := rfl
  rw [← hb] at d1 d2
  generalize wrapB (dencB P f t S) a = b at *
  have k0 : datN b 0 = a := by unfold datN; rw [d2]; rfl
  have k1 : datN b 1 = dencB P f t S := by unfold datN; rw [d2]; rfl
  unfold dverC
  rw [if_pos d1, d2, namesA_wrap, if_pos rfl, k0, k1]
  unfold dver1C
  rw [if_pos q2, q3, q4, q5, q6]
/-- What the law's walk meets. -/
theorem bound_plain (v w : Nat) (hv : v < 500) (hw : w < 50) (sd sd2 n0 n1 U S : Bs) (e1 : sd = randK ((v : Int) + 100) 32) (e2 : sd2 = randK ((v : Int) + 1100) 32) (e3 : n0 = randK (v : Int) 32) (e4 : n1 = randK ((v : Int) + 1) 32) (e5 : U = pubG (randK (((v + 501 + w : Nat) : Int) + 100) 32) 0)
    (e6 : S = sigG sd 0 0 (tGrant ++ pubG sd2 0 ++ spanB 0 99)) : ∃ y0 y1 : Bs,
    dansR sd2 0 0 (pubG sd2 0) 0 99 S [n0, n1] 7 8 = (((sd2, 0, 1), (pubG sd2 0, 0, 99, S)), [y0, y1], 0) ∧ y0.length ≤ 2048 ∧ y1.length ≤ 2048 ∧
    dverC (pubG sd 0) n0 y0 = 0 ∧ dverLo (pubG sd 0) n0 y0 = 7 ∧ dverHi (pubG sd 0) n0 y0 = 8 ∧ dverC U n0 y0 = 26 ∧ dverC (pubG sd 0) n0 y1 = 23 ∧ dverC ((pubG sd 0).take 31) n0 y0 = 5 := by
  have hrl : ∀ x : Int, (randK x 32).length = 32 := fun x => randK_len x 32 (Nat.le_refl _)
  have l1 : sd.length = 32 := by rw [e1]; exact hrl _
  have l2 : sd2.length = 32 := by rw [e2]; exact hrl _
  have ln0 : n0.length = 32 := by rw [e3]; exact hrl _
  have ln1 : n1.length = 32 := by rw [e4]; exact hrl _
  have p1 : pubG sd 0 = keyG sd 0 := pubG_key sd 0 l1 (by omega)
  have p2 : pubG sd2 0 = keyG sd2 0 := pubG_key sd2 0 l2 (by omega)
  have p3 : U = keyG (randK (((v + 501 + w : Nat) : Int) + 100) 32) 0 := by rw [e5]; exact pubG_key _ 0 (hrl _) (by omega)
  have hP : (keyG sd2 0).length = 32 := keyG_len _ _
  have hL : (keyG sd 0).length = 32 := keyG_len _ _
  have v1 : vS 0 99 = true := four_vS (by omega)
  have v3 : vS 7 8 = true := four_vS (by omega)
  have hin : inS 7 8 0 99 = true := by rw [four_inS (by omega) (by omega)]; rfl
  rw [p2] at e6 ⊢
  rw [p1, p3]
  have f1 : fitsG S = true := by rw [e6]; exact head_sig _ _ _ _ (by omega)
  have hd := dans_first (sd := sd2) (P := keyG sd2 0) (S := S) (h := 0) (f := 0) (t := 99) (ns := [n0, n1]) (lo := 7) (hi := 8) l2 (by omega) (by omega) (by simp) (by simp) (by intro l hl; simp at hl; rcases hl with rfl | rfl <;> assumption) v3 hP f1 v1 hin
  have hfit : ∀ i, i < 2 → encC (wrapT (ansB [n0, n1] (sigG sd2 0 0 (tBatch ++ partG [n0, n1] 7 8)) (partG [n0, n1] 7 8) i) (dencB (keyG sd2 0) 0 99 S)) = 0 := fun i hi => by
    have h2' := ansL_props [n0, n1] (sigG sd2 0 0 (tBatch ++ partG [n0, n1] 7 8)) (partG [n0, n1] 7 8) 2 (ansB [n0, n1] (sigG sd2 0 0 (tBatch ++ partG [n0, n1] 7 8)) (partG [n0, n1] 7 8) i) (List.mem_map.2 ⟨i, List.mem_range.2 hi, rfl⟩)
    have h3 := ans_le [n0, n1] (sigG sd2 0 0 (tBatch ++ partG [n0, n1] 7 8)) (partG [n0, n1] 7 8) i (by rw [sigG_len]; omega) (part_le [n0, n1] 7 8)
    have h4 := denc_le (keyG sd2 0) 0 99 S (keyG_len _ _) (head_le S f1)
    exact wrap_fits _ _ h2'.2 (denc_mod _ 0 99 S) (by simp only [List.length_cons, List.length_nil] at h3; omega)
  have hh := dver_honest sd sd2 0 0 0 0 0 99 7 8 [n0, n1] 0 (by omega) (by omega) (by omega) (by omega) v1 v3 hin (by simp) (by simp) ln0 S e6 (hfit 0 (by omega))
  have hoth : rootG (([n0, n1].map leafH).set 1 (leafH n0)) ≠ rootG ([n0, n1].map leafH) := by
    have h := V.non_ne v hv
    rw [← seed_rand v (by omega), ← seed_rand (v + 1) (by omega), show ((v + 1 : Nat) : Int) = (v : Int) + 1 by omega, ← e3, ← e4] at h
    show rootG [leafH n0, leafH n0] ≠ rootG [leafH n0, leafH n1]
    rw [root2, root2]
    exact h
  have hb := bver_other n0 ln0 sd2 0 0 [n0, n1] 1 7 8 (by omega) (by omega) (by simp) (by simp) hoth v3
  have hg := grant_other v w hv hw
  rw [← e1, ← e2, ← e6] at hg
  have w1 := fun l n => dver_wrap2 sd 0 0 (keyG sd2 0) 0 99 (by omega) (by omega) hP v1 S e6 l n _ (hfit 0 (by omega))
  have w2 := fun l n => dver_wrap2 sd 0 0 (keyG sd2 0) 0 99 (by omega) (by omega) hP v1 S e6 l n _ (hfit 1 (by omega))
  refine ⟨_, _, hd, encT_len _, encT_len _, hh.1, hh.2.1, hh.2.2, ?_, ?_, ?_⟩
  · have hc : dcheckC (keyG (randK (((v + 501 + w : Nat) : Int) + 100) 32) 0) (keyG sd2 0) 0 99 S = 26 := by
      unfold dcheckC
      rw [if_pos ⟨keyG_len _ _, hP⟩, if_pos v1, hg]
      rfl
    refine (w1 _ _).trans ?_
    rw [hc]
    rfl
  · have hc : dcheckC (keyG sd 0) (keyG sd2 0) 0 99 S = 0 := (del_honest sd 0 0 (keyG sd2 0) 0 99 (by omega) (by omega) hP v1 S e6).2.2.2.2.2.2
    refine (w2 _ _).trans ?_
    rw [if_pos hc]
    unfold dver2C
    rw [hb, if_neg (by decide)]
  · have hc : dcheckC ((keyG sd 0).take 31) (keyG sd2 0) 0 99 S = 5 := by
      unfold dcheckC
      rw [if_neg (by rw [List.length_take, hL]; omega)]
    refine (w1 _ _).trans ?_
    rw [hc]
    rfl
end Go.Proofs.YtamdgjgommejjaaGreat

/- What a law leans on beyond the base: contracts, plain functions, walks. Conditions: those of each theorem. -/
import Derived.Test.YtjgepckncogdaaaGreatQCtT
set_option linter.unusedVariables false
set_option linter.unusedSimpArgs false
namespace Go.Proofs.YtjgepckncogdaaaGreat
open Go Go.RowKit
set_option linter.unusedVariables false
theorem vS_iff {lo hi : Int} : vS lo hi = true ↔ -1152921504606846976 ≤ lo ∧ hi ≤ 1152921504606846976 ∧ lo ≤ hi := by
 unfold vS; rw [decide_eq_true_iff]
theorem inS_iff {lo hi f t : Int} : inS lo hi f t = true ↔ vS lo hi = true ∧ vS f t = true ∧ f ≤ lo ∧ hi ≤ t := by
 unfold inS
 simp only [Bool.and_eq_true, decide_eq_true_eq]
theorem meB_iff {a b c d : Int} : meB a b c d = true ↔ vS a b = true ∧ vS c d = true ∧ max a c ≤ min b d := by
 unfold meB
 simp only [Bool.and_eq_true, decide_eq_true_eq]
theorem meV_yes {a b c d : Int} (h : meB a b c d = true) : meV a b c d = (max a c, min b d) := by
 unfold meV; rw [if_pos h]
theorem met_sub (ws : List Sp) : ∀ k, (metL ws k).1 = true → (∀ j, j < k → (ws.getD j (0, 0)).1 ≤ (metL ws k).2.1 ∧ (metL ws k).2.2 ≤ (ws.getD j (0, 0)).2) ∧ vS (metL ws k).2.1 (metL ws k).2.2 = true := by
 intro k
 induction k with
 | zero => intro _; exact ⟨fun j hj => absurd hj (by omega), vS_iff.2 ⟨Int.le_refl _, Int.le_refl _, by show (-1152921504606846976 : Int) ≤ 1152921504606846976; omega⟩⟩
 | succ k ih =>
   intro h
   cases hk : (metL ws k).1 with
   | false =>
     rw [metL_stop hk 1] at h
     rw [h] at hk; cases hk
   | true =>
     obtain ⟨h1, h2⟩ := ih hk
     have hn := metL_next (ws := ws) hk
     rw [hn] at h ⊢
     dsimp only at h ⊢
     rw [meV_yes h]
     obtain ⟨m1, m2, m3⟩ := meB_iff.1 h
     rw [vS_iff] at m1 m2
     refine ⟨fun j hj => ?_, vS_iff.2 (by dsimp only; omega)⟩
     dsimp only
     rcases Nat.lt_or_ge j k with hjk | hjk
     · have := h1 j hjk; omega
     · obtain rfl : j = k := by omega
       omega
theorem met_has (ws : List Sp) (x : Int) : ∀ k, (∀ j, j < k → vS (ws.getD j (0, 0)).1 (ws.getD j (0, 0)).2 = true ∧ (ws.getD j (0, 0)).1 ≤ x ∧ x ≤ (ws.getD j (0, 0)).2) → -1152921504606846976 ≤ x → x ≤ 1152921504606846976 → (metL ws k).1 = true ∧ (metL ws k).2.1 ≤ x ∧ x ≤ (metL ws k).2.2 := by
 intro k
 induction k with
 | zero => intro _ h1 h2; exact ⟨rfl, h1, h2⟩
 | succ k ih =>
   intro h h1 h2
   obtain ⟨a1, a2, a3⟩ := ih (fun j hj => h j (by omega)) h1 h2
   obtain ⟨b1, b2, b3⟩ := h k (by omega)
   have hs := (met_sub ws k a1).2
   have hm : meB (metL ws k).2.1 (metL ws k).2.2 (ws.getD k (0, 0)).1 (ws.getD k (0, 0)).2 = true := meB_iff.2 ⟨hs, b1, by omega⟩
   rw [metL_next a1]
   dsimp only
   rw [hm, meV_yes hm]
   exact ⟨rfl, by dsimp only; omega, by dsimp only; omega⟩
theorem honL_get (v : Int) (ws : List Sp) (n k : Nat) (h : k < n) : certT (honL v ws n) k = honC v ws k := by
 unfold certT honL
 rw [List.getD_eq_getElem?_getD, List.getElem?_map, List.getElem?_range h]
 rfl
theorem par_hon (v : Int) (ws : List Sp) (n : Nat) : ∀ k, k ≤ n → parG (keyG (seedC v 0) 0) (honL v ws n) k = keyG (seedC v k) 0 := by
 intro k hk
 cases k with
 | zero => rfl
 | succ k => rw [parG, honL_get v ws n k (by omega)]; rfl
theorem chk_hon (v : Int) (ws : List Sp) (n : Nat) (hn : n ≤ 9) (hv : ∀ k, k < n → vS (ws.getD k (0, 0)).1 (ws.getD k (0, 0)).2 = true) : ∀ k, k ≤ n → chkK (keyG (seedC v 0) 0) (honL v ws n) k = 0 := by
 intro k
 induction k with
 | zero => intro _; rfl
 | succ k ih =>
   intro hk
   have hp := par_hon v ws n k (by omega)
   have hkl : (keyG (seedC v (k + 1)) 0).length = 32 := keyG_len _ _
   have hf := name_formed k (by omega) _ _ (hv k (by omega))
   have hm := ctext_len (nameC k) (keyG (seedC v (k + 1)) 0) (ws.getD k (0, 0)).1 (ws.getD k (0, 0)).2 (by simp [nameC]) hkl
   have hvs := verify_sig (seedC v k) 0 0 (ctextB (nameC k) (keyG (seedC v (k + 1)) 0) (ws.getD k (0, 0)).1 (ws.getD k (0, 0)).2) (by omega) (by omega) (by omega)
   rw [chkK_next (ih (by omega)), hp, honL_get v ws n k (by omega)]
   unfold cchkC honC
   dsimp only
   rw [hkl, hf, hvs]
   rfl
theorem winL_hon (v : Int) (ws : List Sp) : winL (honL v ws ws.length) = ws := by
 apply List.ext_getElem?
 intro j
 unfold winL honL
 rw [List.getElem?_map, List.getElem?_map]
 by_cases h : j < ws.length
 · rw [List.getElem?_range h, List.getElem?_eq_getElem h]
   show some (((ws.getD j (0, 0)).1, (ws.getD j (0, 0)).2)) = _
   rw [List.getD_eq_getElem?_getD, List.getElem?_eq_getElem h]
   rfl
 · rw [List.getElem?_eq_none (by simp; omega), List.getElem?_eq_none (by omega)]
   rfl
def insK (ws : List Sp) (lo hi : Int) : Nat → Bool
 | 0 => true
 | k + 1 => insK ws lo hi k && inS lo hi (ws.getD k (0, 0)).1 (ws.getD k (0, 0)).2
theorem insK_each {ws : List Sp} {lo hi : Int} : ∀ k, insK ws lo hi k = true ↔ ∀ j, j < k → inS lo hi (ws.getD j (0, 0)).1 (ws.getD j (0, 0)).2 = true := by
 intro k
 induction k with
 | zero => exact ⟨fun _ j hj => absurd hj (by omega), fun _ => rfl⟩
 | succ k ih =>
   rw [insK, Bool.and_eq_true, ih]
   constructor
   · rintro ⟨h1, h2⟩ j hj
     rcases Nat.lt_or_ge j k with h | h
     · exact h1 j h
     · obtain rfl : j = k := by omega
       exact h2
   · intro h
     exact ⟨fun j hj => h j (by omega), h k (by omega)⟩
theorem acc_hon {v : Int} {ws : List Sp} {lo hi : Int} (h1 : 1 ≤ ws.length) (h4 : ws.length ≤ 4) (hv : ∀ k, k < ws.length → vS (ws.getD k (0, 0)).1 (ws.getD k (0, 0)).2 = true) (hs : vS lo hi = true) :
 accC (keyG (seedC v 0) 0) (honL v ws ws.length) lo hi = if insK ws lo hi ws.length = true then 0 else 25 := by
 have hc := chk_hon v ws ws.length (by omega) hv ws.length (Nat.le_refl _)
 have hl := honL_len v ws ws.length
 have hw := winL_hon v ws
 have hs' := vS_iff.1 hs
 by_cases hi' : insK ws lo hi ws.length = true
 · rw [if_pos hi']
   have he := (insK_each ws.length).1 hi'
   have hx := met_has ws lo ws.length (fun j hj => by have := inS_iff.1 (he j hj); exact ⟨hv j hj, this.2.2.1, by omega⟩) (by omega) (by omega)
   have hy := met_has ws hi ws.length (fun j hj => by have := inS_iff.1 (he j hj); exact ⟨hv j hj, by omega, this.2.2.2⟩) (by omega) (by omega)
   obtain ⟨w1, w2⟩ := win_yes (r := keyG (seedC v 0) 0) (cs := honL v ws ws.length) (by rw [hl]; omega) (by rw [hl]; exact hc) (by rw [hw, hl]; exact hx.1)
   refine acc_yes w1 hs ?_
   rw [w2, hw, hl]
   exact inS_iff.2 ⟨hs, (met_sub ws _ hx.1).2, hx.2.1, hy.2.2⟩
 · rw [if_neg hi']
   cases hm : (metL ws ws.length).1 with
   | false =>
     have hw5 := win_no (r := keyG (seedC v 0) 0) (cs := honL v ws ws.length) (by rw [hl]; omega) (by rw [hl]; exact hc) (by rw [hw, hl]; exact hm)
     rw [acc_win (by rw [hw5]; omega), hw5]
   | true =>
     obtain ⟨w1, w2⟩ := win_yes (r := keyG (seedC v 0) 0) (cs := honL v ws ws.length) (by rw [hl]; omega) (by rw [hl]; exact hc) (by rw [hw, hl]; exact hm)
     refine acc_out w1 hs ?_
     rw [w2, hw, hl]
     cases hq : inS lo hi (metL ws ws.length).2.1 (metL ws ws.length).2.2 with
     | false => rfl
     | true =>
       exfalso
       apply hi'
       rw [insK_each]
       intro j hj
       have hq' := inS_iff.1 hq
       have hsub := (met_sub ws _ hm).1 j hj
       exact inS_iff.2 ⟨hs, hv j hj, by omega, by omega⟩
theorem accV_hon {v : Int} {ws : List Sp} {lo hi : Int} (h1 : 1 ≤ ws.length) : accV (keyG (seedC v 0) 0) (honL v ws ws.length) lo hi = if accC (keyG (seedC v 0) 0) (honL v ws ws.length) lo hi = 0 then keyG (seedC v ws.length) 0 else [] := by
 unfold accV
 rw [honL_len, honL_get v ws ws.length (ws.length - 1) (by omega)]
 show (if _ then keyG (seedC v (ws.length - 1 + 1)) 0 else []) = _
 rw [show ws.length - 1 + 1 = ws.length by omega]
end Go.Proofs.YtjgepckncogdaaaGreat

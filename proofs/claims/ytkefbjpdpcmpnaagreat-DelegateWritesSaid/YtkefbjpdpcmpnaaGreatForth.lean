/- Plain law: Decode gives back what Encode wrote. No conditions. -/
import Derived.Test.YtkefbjpdpcmpnaaGreatDecL
namespace Go.Proofs.YtkefbjpdpcmpnaaGreat
open Go.RowKit
set_option linter.unusedVariables false
set_option linter.unusedSectionVars false
theorem drop_pre {α : Type} (a b : List α) (n : Nat) (h : a.length = n) : (a ++ b).drop n = b := by
  rw [← h, List.drop_left]
theorem take_pre {α : Type} (a b : List α) (n : Nat) (h : a.length = n) : (a ++ b).take n = a := by
  rw [← h, List.take_left]
section
variable (ts : List (Bs × Bs)) (h4 : ∀ t ∈ ts, t.1.length = 4 ∧ t.2.length % 4 = 0) (hn : 1 ≤ ts.length) (hl : (bodyT ts).length ≤ 2048)
include h4 hn
theorem body_len : (bodyT ts).length = 8 * ts.length + (dataT ts).length := bodyT_len ts (fun t ht => (h4 t ht).1) hn
theorem body_first : (bodyT ts).take 4 = putB 4 ts.length := by
  rw [bodyT, List.append_assoc, List.append_assoc, take_pre _ _ 4 (putB_len _ _)]
theorem body_after : (bodyT ts).drop 4 = placesT ts (ts.length - 1) ++ (namesT ts ++ dataT ts) := by
  rw [bodyT, List.append_assoc, List.append_assoc, drop_pre _ _ 4 (putB_len _ _)]
theorem body_names : (bodyT ts).drop (4 * ts.length) = namesT ts ++ dataT ts := by
  rw [bodyT, List.append_assoc, List.append_assoc, ← List.append_assoc (putB 4 ts.length)]
  exact drop_pre _ _ _ (by rw [List.length_append, putB_len, placesT_len]; omega)
theorem body_data : (bodyT ts).drop (8 * ts.length) = dataT ts := by
  have hN := namesT_len ts (fun t ht => (h4 t ht).1)
  rw [show 8 * ts.length = 4 * ts.length + 4 * ts.length by omega, ← List.drop_drop, body_names ts h4 hn]
  exact drop_pre _ _ _ hN
theorem dataT_pre (k : Nat) : (dataT (ts.take k)).length ≤ (dataT ts).length ∧ (dataT (ts.take k)).length % 4 = 0 := by
  induction k with
  | zero => simp [dataT]
  | succ k ih =>
    by_cases hk : k < ts.length
    · have hg : ts[k]? = some ts[k] := List.getElem?_eq_getElem hk
      rw [dataT_step ts k _ hg, List.length_append]
      have hm := (h4 ts[k] (List.getElem_mem hk)).2
      refine ⟨?_, by omega⟩
      have : dataT ts = dataT (ts.take (k + 1)) ++ dataT (ts.drop (k + 1)) := by
        unfold dataT
        rw [← List.flatten_append, ← List.map_append, List.take_append_drop]
      rw [this, dataT_step ts k _ hg, List.length_append, List.length_append]
      omega
    · rw [List.take_of_length_le (by omega)] at ih ⊢
      exact ih
theorem places_get (j k : Nat) (hj : j < k) (hk : k ≤ ts.length - 1) : ((placesT ts k).drop (4 * j)).take 4 = putB 4 (dataT (ts.take (j + 1))).length := by
  induction k with
  | zero => omega
  | succ k ih =>
    rw [placesT]
    by_cases hjk : j = k
    · subst hjk
      rw [drop_pre _ _ _ (placesT_len ts j)]
      exact List.take_of_length_le (by rw [putB_len]; omega)
    · rw [List.drop_append_of_le_length (by rw [placesT_len]; omega), List.take_append_of_le_length (by rw [List.length_drop, placesT_len]; omega)]
      exact ih (by omega) (by omega)
include hl
theorem place_body (j : Nat) (hj : j + 1 < ts.length) : placeN (bodyT ts) (j + 1) = (dataT (ts.take (j + 1))).length := by
  have hb := body_len ts h4 hn
  have hd := (dataT_pre ts h4 hn (j + 1)).1
  unfold placeN
  rw [show 4 * (j + 1) = 4 + 4 * j by omega, ← List.drop_drop, body_after ts h4 hn]
  rw [List.drop_append_of_le_length (by rw [placesT_len]; omega), List.take_append_of_le_length (by rw [List.length_drop, placesT_len]; omega)]
  rw [places_get ts h4 hn j (ts.length - 1) (by omega) (Nat.le_refl _)]
  exact getB_put4 _ (by omega)
theorem place_zero (h16 : ts.length ≤ 16) : placeN (bodyT ts) 0 = ts.length := by
  unfold placeN
  rw [show 4 * 0 = 0 from rfl, List.drop_zero, body_first ts h4 hn]
  exact getB_put4 _ (by omega)
theorem from_body (j : Nat) (hj : j < ts.length) : fromN (bodyT ts) j = (dataT (ts.take j)).length := by
  cases j with
  | zero => simp [fromN, dataT]
  | succ j =>
    unfold fromN
    rw [if_neg (by omega)]
    exact place_body ts h4 hn hl j hj
theorem at_body (j : Nat) (hj : j ≤ ts.length) : atN (bodyT ts) ts.length ((bodyT ts).length - 8 * ts.length) j = (dataT (ts.take j)).length := by
  have hb := body_len ts h4 hn
  unfold atN
  by_cases h : j < ts.length
  · rw [if_pos h]
    exact from_body ts h4 hn hl j h
  · rw [if_neg h, List.take_of_length_le (by omega), hb]
    omega
theorem ok_body (k : Nat) (hk : k ≤ ts.length - 1) : placesOk (bodyT ts) ((bodyT ts).length - 8 * ts.length) k = true := by
  have hb := body_len ts h4 hn
  induction k with
  | zero => rfl
  | succ k ih =>
    obtain ⟨p1, p2⟩ := dataT_pre ts h4 hn (k + 1)
    have hg : ts[k]? = some ts[k] := List.getElem?_eq_getElem (by omega)
    have hs := dataT_step ts k _ hg
    have q1 : (dataT (ts.take k)).length ≤ (dataT (ts.take (k + 1))).length := by rw [hs, List.length_append]; omega
    have q2 : (dataT (ts.take (k + 1))).length ≤ (bodyT ts).length - 8 * ts.length := by omega
    rw [placesOk, ih (by omega), place_body ts h4 hn hl k (by omega), from_body ts h4 hn hl k (by omega), decide_eq_true p2, decide_eq_true q1, decide_eq_true q2]
    rfl
theorem tag_body (j : Nat) (hj : j < ts.length) : tagN (bodyT ts) ts.length j = ts[j] := by
  have hb := body_len ts h4 hn
  have hg : ts[j]? = some ts[j] := List.getElem?_eq_getElem hj
  have hN := fun k => namesT_len (ts.take k) (fun t ht => (h4 t (List.mem_of_mem_take ht)).1)
  have hd := dataT_step ts j _ hg
  have hnm := namesT_step ts j _ hg
  have e1 : namesT ts = namesT (ts.take (j + 1)) ++ namesT (ts.drop (j + 1)) := by
    unfold namesT
    rw [← List.flatten_append, ← List.map_append, List.take_append_drop]
  have e2 : dataT ts = dataT (ts.take (j + 1)) ++ dataT (ts.drop (j + 1)) := by
    unfold dataT
    rw [← List.flatten_append, ← List.map_append, List.take_append_drop]
  have h1 := hN j
  rw [List.length_take] at h1
  have hx := (h4 ts[j] (List.getElem_mem hj)).1
  unfold tagN
  rw [at_body ts h4 hn hl j (by omega), at_body ts h4 hn hl (j + 1) (by omega), body_data ts h4 hn]
  rw [show 4 * (ts.length + j) = 4 * ts.length + 4 * j by omega, ← List.drop_drop, body_names ts h4 hn, e1, hnm, List.append_assoc, List.append_assoc]
  rw [drop_pre (namesT (ts.take j)) _ (4 * j) (by omega), take_pre _ _ 4 hx]
  rw [e2, hd, List.append_assoc, drop_pre (dataT (ts.take j)) _ _ rfl, take_pre _ _ _ (by rw [List.length_append]; omega)]
theorem tags_body : tagsN (bodyT ts) ts.length = ts := by
  apply List.ext_getElem?
  intro j
  by_cases hj : j < ts.length
  · rw [tagsN_get _ _ _ hj, tag_body ts h4 hn hl j hj, List.getElem?_eq_getElem hj]
  · rw [List.getElem?_eq_none (by rw [tagsN_len]; omega), List.getElem?_eq_none (by omega)]
end
/-- Decode gives back what Encode wrote. -/
theorem dec_enc (ts : List (Bs × Bs)) (h : encC ts = 0) : decC (encT ts) = 0 ∧ decT (encT ts) = ts := by
  have he : encT ts = bodyT ts := by rw [encT, if_pos h]
  rw [he]
  unfold encC at h
  split at h
  · omega
  rename_i g1
  split at h
  · rename_i g2
    split at h
    · omega
    rename_i g3
    have h4 := checkT_ok ts [] g2
    have hn : 1 ≤ ts.length := by omega
    have hl : (bodyT ts).length ≤ 2048 := by omega
    have hb := body_len ts h4 hn
    have h0 := place_zero ts h4 hn hl (by omega)
    have hd := (dataT_pre ts h4 hn ts.length).2
    rw [List.take_of_length_le (Nat.le_refl _)] at hd
    have hc : decC (bodyT ts) = 0 := by
      rw [dec_tags (bodyT ts) (by omega) (by omega) (by omega) (by omega) ⟨by rw [h0]; exact ok_body ts h4 hn hl _ (Nat.le_refl _), by rw [h0]; omega⟩, h0, tags_body ts h4 hn hl]
      exact g2
    exact ⟨hc, by rw [decT, if_pos hc, h0, tags_body ts h4 hn hl]⟩
  · rename_i g2
    exact absurd h g2
/-- A delegation that was written is read back. -/
theorem del_forth (p : Bs) (f t : Int) (s : Bs) (h : dencC p f t s = 0) (hf : unOk (spanB f t) = true) :
    delC (dencB p f t s) = 0 ∧ datN (dencB p f t s) 0 = p ∧ unpadG (datN (dencB p f t s) 1) = some s ∧ datN (dencB p f t s) 2 = spanB f t := by
  obtain ⟨e1, e2⟩ := dtags_enc p f t s h
  obtain ⟨d1, d2⟩ := dec_enc _ e1
  rw [e2] at d1 d2
  have hp : p.length = 32 ∧ fitsG s = true := by
    unfold dencC at h
    split at h
    · rename_i hp
      split at h
      · rename_i hv
        simp only [Bool.and_eq_true] at hv
        exact ⟨hp, hv.2⟩
      · omega
    · omega
  have k0 : datN (dencB p f t s) 0 = p := by unfold datN; rw [d2]; rfl
  have k1 : datN (dencB p f t s) 1 = pad4 s := by unfold datN; rw [d2]; rfl
  have k2 : datN (dencB p f t s) 2 = spanB f t := by unfold datN; rw [d2]; rfl
  have ku := fits_unpad s hp.2
  refine ⟨?_, k0, by rw [k1]; exact ku, k2⟩
  have hok : delOk (dencB p f t s) = true := by
    unfold delOk
    rw [k0, k1, k2, ku, hf, d2, decide_eq_true hp.1]
    rfl
  unfold delC
  rw [if_pos d1, if_pos hok]
theorem head_sig (sd : Bs) (h i : Nat) (m : Bs) (hh : h ≤ 6) : fitsG (sigG sd h i m) = true := by
  have hl := sigG_len sd h i m
  have h0 : headN (sigG sd h i m) = h := by
    unfold headN sigG
    rw [List.append_assoc, List.append_assoc]
    show (UInt8.ofNat h).toNat = h
    rw [UInt8.toNat_ofNat']
    omega
  unfold fitsG sizeN
  rw [h0, hl, decide_eq_true (by omega), decide_eq_true hh, decide_eq_true rfl]
  rfl
end Go.Proofs.YtkefbjpdpcmpnaaGreat

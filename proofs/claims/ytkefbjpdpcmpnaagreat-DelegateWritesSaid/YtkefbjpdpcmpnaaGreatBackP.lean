/- Plain law: what Decode accepts, Encode writes back. No conditions. -/
import Derived.Test.YtkefbjpdpcmpnaaGreatRTDec
namespace Go.Proofs.YtkefbjpdpcmpnaaGreat
open Go.RowKit
set_option linter.unusedVariables false
theorem snoc_of (l : Bs) (n : Nat) (h : l.length = n + 1) : ∃ (r : Bs) (x : UInt8), l = r ++ [x] ∧ r.length = n := by
  have hne : l ≠ [] := by intro e; rw [e] at h; simp at h
  exact ⟨l.dropLast, l.getLast hne, (List.dropLast_concat_getLast hne).symm, by rw [List.length_dropLast]; omega⟩
theorem valB_lt : ∀ (n : Nat) (l : Bs), l.length = n → valB l < 256 ^ n
  | 0, l, h => by
    have : l = [] := List.eq_nil_of_length_eq_zero h
    subst this
    simp [valB]
  | n + 1, l, h => by
    obtain ⟨r, x, rfl, hr⟩ := snoc_of l n h
    have ih := valB_lt n r hr
    rw [valB_append]
    have hx := x.toNat_lt
    have h1 : valB [x] = x.toNat := by simp [valB]
    rw [h1]
    simp only [List.length_singleton, Nat.pow_succ, Nat.pow_zero, Nat.one_mul]
    omega
theorem putB_val : ∀ (n : Nat) (l : Bs), l.length = n → putB n (valB l) = l
  | 0, l, h => by
    have : l = [] := List.eq_nil_of_length_eq_zero h
    subst this
    rfl
  | n + 1, l, h => by
    obtain ⟨r, x, rfl, hr⟩ := snoc_of l n h
    have ih := putB_val n r hr
    rw [putB, valB_append]
    have hx := x.toNat_lt
    have h1 : valB [x] = x.toNat := by simp [valB]
    rw [h1]
    simp only [List.length_singleton, Nat.pow_one]
    rw [show (valB r * 256 + x.toNat) / 256 = valB r by omega, ih]
    congr 2
    apply UInt8.toNat.inj
    rw [UInt8.toNat_ofNat']
    omega
theorem putB_get4 (l : Bs) (h : l.length = 4) : putB 4 (getB l) = l := by
  have h1 := valB_lt 4 l h
  rw [getB_val, Nat.mod_eq_of_lt (by omega), putB_val 4 l h]
theorem putB_get8 (l : Bs) (h : l.length = 8) : putB 8 (getB l) = l := by
  have h1 := valB_lt 8 l h
  rw [getB_val, Nat.mod_eq_of_lt (by omega), putB_val 8 l h]
theorem place_put (b : Bs) (i : Nat) (h : 4 * i + 4 ≤ b.length) : putB 4 (placeN b i) = (b.drop (4 * i)).take 4 :=
  putB_get4 _ (by rw [List.length_take, List.length_drop]; omega)
theorem take_add_drop {α : Type} (l : List α) (i j : Nat) : l.take i ++ (l.drop i).take j = l.take (i + j) := by
  rw [List.take_add]
section
variable (b : Bs) (n : Nat)
theorem at_zero (h1 : 1 ≤ n) (z : Nat) : atN b n z 0 = 0 := by unfold atN fromN; rw [if_pos (by omega), if_pos rfl]
theorem at_end (z : Nat) : atN b n z n = z := by unfold atN; rw [if_neg (by omega)]
theorem data_at (h1 : 1 ≤ n) (hn : 8 * n ≤ b.length) (h : placesOk b (b.length - 8 * n) (n - 1) = true) (k : Nat) (hk : k ≤ n) :
    dataT ((tagsN b n).take k) = (b.drop (8 * n)).take (atN b n (b.length - 8 * n) k) ∧ atN b n (b.length - 8 * n) k ≤ b.length - 8 * n := by
  induction k with
  | zero =>
    rw [at_zero b n h1]
    exact ⟨by simp [dataT], by omega⟩
  | succ k ih =>
    obtain ⟨i1, i2⟩ := ih (by omega)
    have ha := at_le b n (b.length - 8 * n) h k (by omega)
    have hg := tagsN_get b n k (by omega)
    rw [dataT_step _ _ _ hg, i1]
    refine ⟨?_, ha.2⟩
    show _ ++ (tagN b n k).2 = _
    unfold tagN
    rw [take_add_drop]
    congr 1
    omega
theorem names_at (hn : 8 * n ≤ b.length) (k : Nat) (hk : k ≤ n) : namesT ((tagsN b n).take k) = (b.drop (4 * n)).take (4 * k) := by
  induction k with
  | zero => simp [namesT]
  | succ k ih =>
    rw [namesT_step _ _ _ (tagsN_get b n k (by omega)), ih (by omega)]
    show _ ++ (tagN b n k).1 = _
    unfold tagN
    rw [show (b.drop (4 * (n + k))).take 4 = ((b.drop (4 * n)).drop (4 * k)).take 4 by rw [List.drop_drop]; congr 2; omega, take_add_drop]
    congr 1
theorem places_at (h1 : 1 ≤ n) (hn : 8 * n ≤ b.length) (h : placesOk b (b.length - 8 * n) (n - 1) = true) (k : Nat) (hk : k ≤ n - 1) :
    placesT (tagsN b n) k = (b.drop 4).take (4 * k) := by
  induction k with
  | zero => rfl
  | succ k ih =>
    obtain ⟨d1, d2⟩ := data_at b n h1 hn h (k + 1) (by omega)
    have hp := placesOk_get b _ _ h k (by omega)
    have ha : atN b n (b.length - 8 * n) (k + 1) = placeN b (k + 1) := by
      unfold atN fromN
      rw [if_pos (by omega), if_neg (by omega)]
    rw [placesT, ih (by omega), d1, List.length_take, List.length_drop, ha, Nat.min_eq_left (by omega), place_put b (k + 1) (by omega)]
    rw [show (b.drop (4 * (k + 1))).take 4 = ((b.drop 4).drop (4 * k)).take 4 by rw [List.drop_drop]; congr 2; omega, take_add_drop]
    congr 1
theorem tagsN_len : (tagsN b n).length = n := by simp [tagsN]
theorem body_back (h1 : 1 ≤ n) (hn : 8 * n ≤ b.length) (h0 : placeN b 0 = n) (h : placesOk b (b.length - 8 * n) (n - 1) = true) : bodyT (tagsN b n) = b := by
  have e1 : (tagsN b n).take n = tagsN b n := List.take_of_length_le (by rw [tagsN_len]; exact Nat.le_refl _)
  have e2 := (data_at b n h1 hn h n (Nat.le_refl n)).1
  have e3 := names_at b n hn n (Nat.le_refl n)
  rw [e1] at e2 e3
  rw [at_end, List.take_of_length_le (by rw [List.length_drop]; exact Nat.le_refl _)] at e2
  unfold bodyT
  rw [tagsN_len, places_at b n h1 hn h (n - 1) (Nat.le_refl _), e2, e3]
  have e4 := place_put b 0 (by omega)
  rw [h0] at e4
  rw [e4]
  rw [show b.drop (4 * 0) = b from rfl, take_add_drop, show 4 + 4 * (n - 1) = 4 * n by omega, take_add_drop, show 4 * n + 4 * n = 8 * n by omega, List.take_append_drop]
end
/-- What Decode accepts, Encode writes back. -/
theorem enc_back (b : Bs) (h : decC b = 0) : encC (decT b) = 0 ∧ encT (decT b) = b := by
  have hd : decT b = tagsN b (placeN b 0) := by rw [decT, if_pos h]
  unfold decC at h
  split at h
  · omega
  split at h
  · omega
  split at h
  · omega
  split at h
  · omega
  split at h
  · rename_i g1 g2 g3 g4 g5
    have hb := body_back b (placeN b 0) (by omega) (by omega) rfl g5.1
    have he : encC (tagsN b (placeN b 0)) = 0 := by
      unfold encC
      rw [tagsN_len, if_neg (by omega), if_pos h, hb, if_neg g1]
    rw [hd]
    exact ⟨he, by rw [encT, if_pos he, hb]⟩
  · omega
/-- The bytes of a span are written back. -/
theorem span_back (x : Bs) (h : unOk x = true) : vS (unLo x) (unHi x) = true ∧ spanB (unLo x) (unHi x) = x := by
  unfold unOk at h
  simp only [Bool.and_eq_true, decide_eq_true_eq] at h
  refine ⟨h.2, ?_⟩
  have u1 : ∀ l : Bs, u64 (wrap64 (getB l : Int)) = getB l := fun l => by
    have := getB_lt l
    unfold u64 wrap64
    omega
  unfold spanB unLo unHi
  rw [u1, u1, putB_get8 _ (by rw [List.length_take]; omega), putB_get8 _ (by rw [List.length_drop]; omega), List.take_append_drop]
end Go.Proofs.YtkefbjpdpcmpnaaGreat

/- Plain law of delegations as bytes: what Encode writes and Decode reads. No program in sight. -/
import Derived.Test.YtkefbjpdpcmpnaaGreatBackP
import Derived.Test.YtkefbjpdpcmpnaaGreatSet8
import Derived.Test.YtkefbjpdpcmpnaaGreatCut
namespace Go.Proofs.YtkefbjpdpcmpnaaGreat
set_option linter.unusedVariables false
def nKEYS : Bs := [75, 69, 89, 83]
def nANSW : Bs := [65, 78, 83, 87]
def nCERT : Bs := [67, 69, 82, 84]
def names3 : List Bs := [nKEYS, nSIGN, nSPAN]
def namesA : List Bs := [nANSW, nCERT]
def fitsG (s : Bs) : Bool := decide (0 < s.length) && (decide (headN s ≤ 6) && decide (s.length = sizeN s))
def dtags (p : Bs) (f t : Int) (s : Bs) : List (Bs × Bs) := [(nKEYS, p), (nSIGN, pad4 s), (nSPAN, spanB f t)]
def dencC (p : Bs) (f t : Int) (s : Bs) : Int := if p.length = 32 then (if vS f t && fitsG s then 0 else 3) else 5
def dencB (p : Bs) (f t : Int) (s : Bs) : Bs := if dencC p f t s = 0 then bodyT (dtags p f t s) else []
def delOk (b : Bs) : Bool := decide ((decT b).map (·.1) = names3) && decide ((datN b 0).length = 32) && (unpadG (datN b 1)).isSome && unOk (datN b 2)
def delC (b : Bs) : Int := if decC b = 0 then (if delOk b = true then 0 else 3) else decC b
theorem spanB_len (f t : Int) : (spanB f t).length = 16 := by simp [spanB, putB_len]
theorem head_pad (s : Bs) (h : 0 < s.length) : headN (pad4 s) = headN s := by
  cases s with
  | nil => simp at h
  | cons x r => simp [headN, pad4]
theorem size_pad (s : Bs) (h : 0 < s.length) : sizeN (pad4 s) = sizeN s := by unfold sizeN; rw [head_pad s h]
theorem fits_unpad (s : Bs) (h : fitsG s = true) : unpadG (pad4 s) = some s := by
  unfold fitsG at h
  simp only [Bool.and_eq_true, decide_eq_true_eq] at h
  obtain ⟨h0, h1, h2⟩ := h
  have h3 := pad4_len s
  unfold unpadG
  rw [head_pad s h0, size_pad s h0, if_neg (by omega)]
  have h4 : (pad4 s).take (sizeN s) = s := by rw [← h2, pad4, List.take_left]
  rw [h4, if_pos rfl]
theorem unpad_spec {b s : Bs} (h : unpadG b = some s) : fitsG s = true ∧ pad4 s = b := by
  unfold unpadG at h
  split at h
  · cases h
  rename_i g
  split at h
  · rename_i g2
    injection h with h
    subst h
    refine ⟨?_, g2⟩
    unfold fitsG
    have hl : (b.take (sizeN b)).length = sizeN b := by rw [List.length_take]; omega
    have hp : 0 < (b.take (sizeN b)).length := by rw [hl]; unfold sizeN; omega
    have h1 : headN (b.take (sizeN b)) = headN b := by
      rw [← head_pad _ hp, g2]
    have h2 : sizeN (b.take (sizeN b)) = sizeN b := by unfold sizeN at *; rw [h1]
    simp only [Bool.and_eq_true, decide_eq_true_eq]
    rw [h1, h2, hl]
    rw [hl] at hp
    exact ⟨hp, by omega, rfl⟩
  · cases h
theorem fits_iff (s : Bs) : fitsG s = (decide (0 < s.length) && ((unpadG (pad4 s)).isSome && decide (s.length = sizeN s))) := by
  by_cases h0 : 0 < s.length
  · by_cases h1 : s.length = sizeN s
    · by_cases h2 : headN s ≤ 6
      · have h : fitsG s = true := by unfold fitsG; rw [decide_eq_true h0, decide_eq_true h2, decide_eq_true h1]; rfl
        rw [h, fits_unpad s h]
        simp [h0, ← h1]
      · have h : fitsG s = false := by unfold fitsG; simp [h2]
        have h3 : unpadG (pad4 s) = none := unpad_no _ (Or.inr (Or.inl (by rw [head_pad s h0]; omega)))
        rw [h, h3]
        simp
    · have h : fitsG s = false := by unfold fitsG; simp [h1]
      rw [h]
      simp [h1]
  · have h : fitsG s = false := by unfold fitsG; simp [h0]
    rw [h]
    simp [h0]
theorem head_le (s : Bs) (h : fitsG s = true) : s.length ≤ 757 := by
  unfold fitsG sizeN at h
  simp only [Bool.and_eq_true, decide_eq_true_eq] at h
  omega
theorem dtags_ok (p : Bs) (f t : Int) (s : Bs) (hp : p.length = 32) (hs : fitsG s = true) : encC (dtags p f t s) = 0 := by
  have h1 := pad4_len s
  have h2 := head_le s hs
  have hc : checkT [] (dtags p f t s) = 0 := by
    have e1 : namedG nKEYS = true := by decide
    have e2 : namedG nSIGN = true := by decide
    have e3 : namedG nSPAN = true := by decide
    have o1 : (Op.bytesLess nKEYS [] || nKEYS == []) = false := by decide
    have o2 : (Op.bytesLess nSIGN nKEYS || nSIGN == nKEYS) = false := by decide
    have o3 : (Op.bytesLess nSPAN nSIGN || nSPAN == nSIGN) = false := by decide
    have d1 : p.length % 4 = 0 := by omega
    have d2 : (pad4 s).length % 4 = 0 := by omega
    have d3 : (spanB f t).length % 4 = 0 := by rw [spanB_len]
    simp only [dtags, checkT, e1, e2, e3, o1, o2, o3, d1, d2, d3, if_true, Bool.false_eq_true, if_false]
  have hl : (bodyT (dtags p f t s)).length ≤ 2048 := by
    rw [bodyT_len _ (fun x hx => (checkT_ok _ _ hc x hx).1) (by simp [dtags])]
    have : (dataT (dtags p f t s)).length = 32 + (pad4 s).length + 16 := by
      simp only [dtags, dataT, List.map_cons, List.map_nil, List.flatten_cons, List.flatten_nil, List.length_append, List.length_nil, spanB_len, hp]
      omega
    rw [this]
    simp only [dtags, List.length_cons, List.length_nil]
    omega
  unfold encC
  rw [if_neg (by simp [dtags]), if_pos hc, if_neg (by omega)]
theorem dtags_enc (p : Bs) (f t : Int) (s : Bs) (h : dencC p f t s = 0) : encC (dtags p f t s) = 0 ∧ encT (dtags p f t s) = dencB p f t s := by
  have h0 := h
  unfold dencC at h
  split at h
  · rename_i hp
    split at h
    · rename_i hv
      simp only [Bool.and_eq_true] at hv
      have he := dtags_ok p f t s hp hv.2
      exact ⟨he, by rw [encT, if_pos he, dencB, if_pos h0]⟩
    · omega
  · omega
/-- A message with just these names is its own tags. -/
theorem tags_three (b : Bs) (h : (decT b).map (·.1) = names3) : decT b = [(nKEYS, datN b 0), (nSIGN, datN b 1), (nSPAN, datN b 2)] := by
  unfold datN
  generalize decT b = l at h ⊢
  obtain ⟨x, l, rfl⟩ : ∃ x r, l = x :: r := by cases l with | nil => simp [names3] at h | cons x r => exact ⟨x, r, rfl⟩
  obtain ⟨y, l, rfl⟩ : ∃ x r, l = x :: r := by cases l with | nil => simp [names3] at h | cons x r => exact ⟨x, r, rfl⟩
  obtain ⟨z, l, rfl⟩ : ∃ x r, l = x :: r := by cases l with | nil => simp [names3] at h | cons x r => exact ⟨x, r, rfl⟩
  obtain ⟨x1, x2⟩ := x
  obtain ⟨y1, y2⟩ := y
  obtain ⟨z1, z2⟩ := z
  simp only [names3, List.map_cons, List.cons.injEq, List.map_eq_nil_iff] at h
  obtain ⟨rfl, rfl, rfl, rfl⟩ := h
  rfl
theorem tags_two (b : Bs) (h : (decT b).map (·.1) = namesA) : decT b = [(nANSW, datN b 0), (nCERT, datN b 1)] := by
  unfold datN
  generalize decT b = l at h ⊢
  obtain ⟨x, l, rfl⟩ : ∃ x r, l = x :: r := by cases l with | nil => simp [namesA] at h | cons x r => exact ⟨x, r, rfl⟩
  obtain ⟨y, l, rfl⟩ : ∃ x r, l = x :: r := by cases l with | nil => simp [namesA] at h | cons x r => exact ⟨x, r, rfl⟩
  obtain ⟨x1, x2⟩ := x
  obtain ⟨y1, y2⟩ := y
  simp only [namesA, List.map_cons, List.cons.injEq, List.map_eq_nil_iff] at h
  obtain ⟨rfl, rfl, rfl⟩ := h
  rfl
/-- Writing back what was read: the same bytes, just where the key has its length. -/
theorem del_back (b s : Bs) (hd : decC b = 0) (hn : (decT b).map (·.1) = names3) (hs : unpadG (datN b 1) = some s) (hu : unOk (datN b 2) = true) (hl : (datN b 0).length = 32) :
    dencC (datN b 0) (unLo (datN b 2)) (unHi (datN b 2)) s = 0 ∧ dencB (datN b 0) (unLo (datN b 2)) (unHi (datN b 2)) s = b := by
  obtain ⟨f1, f2⟩ := unpad_spec hs
  obtain ⟨s1, s2⟩ := span_back _ hu
  have hc : dencC (datN b 0) (unLo (datN b 2)) (unHi (datN b 2)) s = 0 := by
    unfold dencC
    rw [if_pos hl, s1, f1]
    rfl
  refine ⟨hc, ?_⟩
  obtain ⟨e1, e2⟩ := enc_back b hd
  rw [dencB, if_pos hc, dtags, f2, s2, ← tags_three b hn]
  rw [encT, if_pos e1] at e2
  exact e2
end Go.Proofs.YtkefbjpdpcmpnaaGreat

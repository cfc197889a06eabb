/- Plain facts behind the statements about quorums: honest sources, the ends of Trim, who is outside, what Needed finds. -/
import Derived.Test.YtiiaghmdajdbbaaQ1
import Derived.Test.YtiiaghmdajdbbaaQR
import Derived.Test.YtiiaghmdajdbbaaQN
import Derived.Test.YtiiaghmdajdbbaaQT
namespace Go.Proofs.Ytiiaghmdajdbbaa
open Go Go.RowKit
set_option linter.unusedVariables false
theorem qchk_mk {l : List Sp} {f : Int} (h1 : okV l = true) (h2 : 0 ≤ f) (h3 : 2 * f < l.length) : qchkC l f = 0 := by
  unfold qchkC; rw [if_pos h1, if_pos ⟨h2, h3⟩]
theorem vS_bounds {lo hi : Int} (h : vS lo hi = true) : -1152921504606846976 ≤ lo ∧ hi ≤ 1152921504606846976 ∧ lo ≤ hi := by
  unfold vS at h; rwa [decide_eq_true_iff] at h
theorem vS_mk {lo hi : Int} (h1 : -1152921504606846976 ≤ lo) (h2 : hi ≤ 1152921504606846976) (h3 : lo ≤ hi) : vS lo hi = true := by
  unfold vS; rw [decide_eq_true_iff]; exact ⟨h1, h2, h3⟩
/-- A hull is a valid span. -/
theorem hull_vS {l : List Sp} {n : Int} {s : Sp} (hok : okV l = true) (hn : 1 ≤ n) (h : IsHull l n (some s)) : vS s.1 s.2 = true := by
  obtain ⟨h1, h2, h3⟩ := h
  have a := cnt_in hok (t := s.1) (by omega)
  have b := cnt_in hok (t := s.2) (by omega)
  exact vS_mk a.1 b.2 (h3 s.1 h1).2
theorem hull_some {l : List Sp} {n t : Int} {o : Option Sp} (h : IsHull l n o) (ht : n ≤ (cnt l t : Int)) : ∃ s, o = some s ∧ s.1 ≤ t ∧ t ≤ s.2 := by
  cases o with
  | none => have := h t; omega
  | some s => exact ⟨s, rfl, h.2.2 t ht⟩
theorem cnt_split (l : List Sp) (k : Nat) (t : Int) : cnt l t = cnt (l.take k) t + cnt (l.drop k) t := by
  conv => lhs; rw [← List.take_append_drop k l]
  unfold cnt
  rw [List.countP_append]
theorem Src.cnt {ls : List Sp} {f truth : Int} (h : Src ls f truth) : (ls.length : Int) - f ≤ (cnt ls truth : Int) := by
  have h1 := cnt_split ls f.toNat truth
  have h2 : Proofs.Ytiiaghmdajdbbaa.cnt (ls.drop f.toNat) truth = (ls.drop f.toNat).length := by
    unfold Proofs.Ytiiaghmdajdbbaa.cnt
    rw [List.countP_eq_length]
    intro s hs
    obtain ⟨j, hj⟩ := List.getElem?_of_mem hs
    rw [List.getElem?_drop] at hj
    have := h.hon _ s (by omega) hj
    unfold hol
    rw [decide_eq_true_iff]
    exact this
  rw [List.length_drop] at h2
  have := h.f0
  have := h.f2
  omega
theorem Src.chk {ls : List Sp} {f truth : Int} (h : Src ls f truth) : qchkC ls f = 0 := qchk_mk h.ok h.f0 h.f2
theorem Src.agree {ls : List Sp} {f truth : Int} (h : Src ls f truth) {o : Option Sp} (ho : AgO ls f o) : ∃ s, o = some s ∧ IsHull ls (ls.length - f) (some s) ∧ vS s.1 s.2 = true ∧ s.1 ≤ truth ∧ truth ≤ s.2 := by
  unfold AgO at ho
  rw [if_pos h.chk] at ho
  obtain ⟨s, rfl, h1, h2⟩ := hull_some ho h.cnt
  have := h.f2
  have := h.f0
  exact ⟨s, rfl, ho, hull_vS h.ok (by omega) ho, h1, h2⟩
/-- In a sorted list the numbers up to t are among the first ones. -/
theorem count_le {r : List Int} (h : r.Pairwise (· ≤ ·)) {i : Nat} {x t : Int} (hx : r[i]? = some x) (ht : t < x) : r.countP (fun y => decide (y ≤ t)) ≤ i := by
  conv => lhs; rw [← List.take_append_drop i r]
  rw [List.countP_append]
  have h1 : (r.drop i).countP (fun y => decide (y ≤ t)) = 0 := by
    rw [List.countP_eq_zero]
    intro y hy
    obtain ⟨j, hj⟩ := List.getElem?_of_mem hy
    rw [List.getElem?_drop] at hj
    obtain ⟨a1, e1⟩ := List.getElem?_eq_some_iff.1 hx
    obtain ⟨a2, e2⟩ := List.getElem?_eq_some_iff.1 hj
    rw [decide_eq_true_iff]
    rcases Nat.eq_zero_or_pos j with rfl | h3
    · rw [Nat.add_zero] at hj
      rw [hx] at hj; cases hj; omega
    · have := List.pairwise_iff_getElem.1 h i (i + j) a1 a2 (by omega)
      rw [e1, e2] at this; omega
  have h2 : (r.take i).countP (fun y => decide (y ≤ t)) ≤ (r.take i).length := List.countP_le_length
  have h3 := List.length_take_le i r
  omega
theorem count_ge {r : List Int} (h : r.Pairwise (· ≤ ·)) {i : Nat} {x t : Int} (hx : r[i]? = some x) (ht : x < t) : r.countP (fun y => decide (t ≤ y)) + (i + 1) ≤ r.length := by
  have hi := (List.getElem?_eq_some_iff.1 hx).1
  have e := List.take_append_drop (i + 1) r
  have h1 : (r.take (i + 1)).countP (fun y => decide (t ≤ y)) = 0 := by
    rw [List.countP_eq_zero]
    intro y hy
    obtain ⟨j, hj⟩ := List.getElem?_of_mem hy
    rw [List.getElem?_take] at hj
    split at hj
    · obtain ⟨a1, e1⟩ := List.getElem?_eq_some_iff.1 hx
      obtain ⟨a2, e2⟩ := List.getElem?_eq_some_iff.1 hj
      rw [decide_eq_true_iff]
      rcases Nat.lt_or_ge j i with h3 | h3
      · have := List.pairwise_iff_getElem.1 h j i a2 a1 h3
        rw [e1, e2] at this; omega
      · obtain rfl : j = i := by omega
        rw [hx] at hj; cases hj; omega
    · cases hj
  have h2 : (r.drop (i + 1)).countP (fun y => decide (t ≤ y)) ≤ (r.drop (i + 1)).length := List.countP_le_length
  rw [List.length_drop] at h2
  have h3 : r.countP (fun y => decide (t ≤ y)) = (r.take (i + 1)).countP (fun y => decide (t ≤ y)) + (r.drop (i + 1)).countP (fun y => decide (t ≤ y)) := by
    rw [← List.countP_append, e]
  omega
theorem cnt_los (l : List Sp) (t : Int) : cnt l t ≤ (l.map (·.1)).countP (fun y => decide (y ≤ t)) := by
  unfold cnt
  rw [List.countP_map]
  refine List.countP_mono_left fun s _ h => ?_
  unfold hol at h
  simp at h ⊢
  exact h.1
theorem cnt_his (l : List Sp) (t : Int) : cnt l t ≤ (l.map (·.2)).countP (fun y => decide (t ≤ y)) := by
  unfold cnt
  rw [List.countP_map]
  refine List.countP_mono_left fun s _ h => ?_
  unfold hol at h
  simp at h ⊢
  exact h.2
theorem tLo_get {l : List Sp} {f : Int} (h2 : 2 * f < l.length) (h0 : 0 ≤ f) : (srt (l.map (·.1)))[l.length - 1 - f.toNat]? = some (tLo l f) := by
  unfold tLo
  have : l.length - 1 - f.toNat < (srt (l.map (·.1))).length := by rw [srt_len, List.length_map]; omega
  rw [List.getD_eq_getElem?_getD, List.getElem?_eq_getElem this]; rfl
theorem tHi_get {l : List Sp} {f : Int} (h2 : 2 * f < l.length) (h0 : 0 ≤ f) : (srt (l.map (·.2)))[f.toNat]? = some (tHi l f) := by
  unfold tHi
  have : f.toNat < (srt (l.map (·.2))).length := by rw [srt_len, List.length_map]; omega
  rw [List.getD_eq_getElem?_getD, List.getElem?_eq_getElem this]; rfl
theorem tLo_le {l : List Sp} {f t : Int} (h2 : 2 * f < l.length) (h0 : 0 ≤ f) (ht : (l.length : Int) - f ≤ (cnt l t : Int)) : tLo l f ≤ t := by
  rcases Int.lt_or_le t (tLo l f) with h | h
  · have a := count_le (srt_asc _) (tLo_get h2 h0) h
    rw [(srt_perm _).countP_eq] at a
    have := cnt_los l t
    omega
  · exact h
theorem le_tHi {l : List Sp} {f t : Int} (h2 : 2 * f < l.length) (h0 : 0 ≤ f) (ht : (l.length : Int) - f ≤ (cnt l t : Int)) : t ≤ tHi l f := by
  rcases Int.lt_or_le (tHi l f) t with h | h
  · have a := count_ge (srt_asc _) (tHi_get h2 h0) h
    rw [(srt_perm _).countP_eq, srt_len, List.length_map] at a
    have := cnt_his l t
    omega
  · exact h
theorem tLo_in {l : List Sp} {f : Int} (hok : okV l = true) (h2 : 2 * f < l.length) (h0 : 0 ≤ f) : -1152921504606846976 ≤ tLo l f := by
  have := (srt_perm _).mem_iff.1 (List.mem_of_getElem? (tLo_get h2 h0))
  obtain ⟨s, hs, e⟩ := List.mem_map.1 this
  have := vS_bounds (okV_each hok s hs)
  omega
theorem tHi_in {l : List Sp} {f : Int} (hok : okV l = true) (h2 : 2 * f < l.length) (h0 : 0 ≤ f) : tHi l f ≤ 1152921504606846976 := by
  have := (srt_perm _).mem_iff.1 (List.mem_of_getElem? (tHi_get h2 h0))
  obtain ⟨s, hs, e⟩ := List.mem_map.1 this
  have := vS_bounds (okV_each hok s hs)
  omega
theorem Src.trim {ls : List Sp} {f truth : Int} (h : Src ls f truth) {s : Sp} (hs : IsHull ls (ls.length - f) (some s)) (hv : vS s.1 s.2 = true) : trC ls f = 0 ∧ vS (tLo ls f) (tHi ls f) = true ∧ tLo ls f ≤ s.1 ∧ s.2 ≤ tHi ls f := by
  have a := tLo_le h.f2 h.f0 hs.1
  have b := le_tHi h.f2 h.f0 hs.2.1
  have c := vS_bounds hv
  refine ⟨?_, vS_mk (tLo_in h.ok h.f2 h.f0) (tHi_in h.ok h.f2 h.f0) (by omega), a, b⟩
  unfold trC
  rw [if_pos h.chk, if_pos (by omega)]
theorem outN_mem {l : List Sp} {a b x : Int} {n : Nat} (h : x ∈ outN l a b n) : ∃ (k : Nat) (s : Sp), x = (k : Int) ∧ k < n ∧ l[k]? = some s ∧ meB s.1 s.2 a b = false := by
  induction n with
  | zero => cases h
  | succ n ih =>
    rw [outN] at h
    rcases List.mem_append.1 h with h | h
    · obtain ⟨k, s, h1, h2, h3⟩ := ih h
      exact ⟨k, s, h1, by omega, h3⟩
    · cases hs : l[n]? with
      | none => rw [hs] at h; cases h
      | some s =>
        rw [hs] at h
        dsimp only at h
        split at h
        · cases h
        · rw [List.mem_singleton] at h
          rename_i hm
          exact ⟨n, s, h, by omega, hs, by simpa using hm⟩
theorem outN_asc (l : List Sp) (a b : Int) (n : Nat) : (outN l a b n).Pairwise (· < ·) := by
  induction n with
  | zero => exact List.Pairwise.nil
  | succ n ih =>
    rw [outN, List.pairwise_append]
    refine ⟨ih, ?_, fun x hx y hy => ?_⟩
    · cases l[n]? with
      | none => exact List.Pairwise.nil
      | some s =>
        dsimp only
        split
        · exact List.Pairwise.nil
        · exact List.pairwise_singleton _ _
    · obtain ⟨k, s, rfl, h1, -⟩ := outN_mem hx
      cases hs : l[n]? with
      | none => rw [hs] at hy; cases hy
      | some s =>
        rw [hs] at hy
        dsimp only at hy
        split at hy
        · cases hy
        · rw [List.mem_singleton] at hy; omega
theorem outN_count (l : List Sp) (a b : Int) (n : Nat) : (outN l a b n).length = (l.take n).countP (fun s => !meB s.1 s.2 a b) := by
  induction n with
  | zero => rfl
  | succ n ih =>
    rw [outN, List.length_append, ih, List.take_add_one, List.countP_append]
    cases hs : l[n]? with
    | none => rfl
    | some s =>
      dsimp only
      by_cases hm : meB s.1 s.2 a b = true
      · rw [if_pos hm]; simp [hm]
      · rw [if_neg hm]; simp [hm]
theorem meB_of {lo hi a b t : Int} (h1 : vS lo hi = true) (h2 : vS a b = true) (h3 : lo ≤ t ∧ t ≤ hi) (h4 : a ≤ t ∧ t ≤ b) : meB lo hi a b = true := by
  unfold meB
  rw [h1, h2, decide_eq_true (by omega)]; rfl
theorem Src.out {ls : List Sp} {f truth : Int} (h : Src ls f truth) {s : Sp} (hv : vS s.1 s.2 = true) (h1 : s.1 ≤ truth ∧ truth ≤ s.2) : ∀ x ∈ outX ls (some s), x < f := by
  intro x hx
  obtain ⟨k, r, rfl, hk, hr, hm⟩ := outN_mem hx
  rcases Int.lt_or_le (k : Int) f with h2 | h2
  · exact h2
  · have := meB_of (okV_each h.ok r (List.mem_of_getElem? hr)) hv (h.hon k r h2 hr) h1
    rw [this] at hm; cases hm
theorem NeedR.found {l : List Sp} {f n c : Int} {s : Sp} (h : NeedR l n c) (h1 : okV l = true) (h2 : 0 ≤ f) (h3 : 2 * f < l.length) (hs : IsHull l (l.length - f) (some s)) : c = 0 ∧ n ≤ f := by
  have hq := qchk_mk h1 (Int.le_refl 0) (show 2 * 0 < (l.length : Int) by omega)
  rcases h with ⟨k1, k2, k3⟩ | ⟨k1, k2, k3, k4, ⟨r, k5⟩, k6⟩ | ⟨k1, k2, k3, k4⟩
  · exact absurd hq k1
  · refine ⟨k2, ?_⟩
    rcases Int.lt_or_le f n with h4 | h4
    · cases IsHull.uniq hs (k6 f h2 h4)
    · exact h4
  · cases IsHull.uniq hs (k4 f h2 h3)
theorem few_out {l : List Sp} {k : Int} {s : Sp} (hok : okV l = true) (hv : vS s.1 s.2 = true) (hs : IsHull l (l.length - k) (some s)) : ((outX l (some s)).length : Int) ≤ k := by
  show ((outN l s.1 s.2 l.length).length : Int) ≤ k
  rw [outN_count, List.take_of_length_le (Nat.le_refl _)]
  have h1 := List.length_eq_countP_add_countP (fun r : Sp => meB r.1 r.2 s.1 s.2) (l := l)
  have h2 : cnt l s.1 ≤ l.countP (fun r => meB r.1 r.2 s.1 s.2) := by
    unfold cnt
    refine List.countP_mono_left fun r hr h => ?_
    unfold hol at h
    rw [decide_eq_true_iff] at h
    exact meB_of (okV_each hok r hr) hv h ⟨Int.le_refl _, (vS_bounds hv).2.2⟩
  have h3 := hs.1
  have h4 : l.countP (fun r => !meB r.1 r.2 s.1 s.2) = l.countP (fun r => decide ¬(meB r.1 r.2 s.1 s.2 = true)) := by
    congr 1; funext r; cases meB r.1 r.2 s.1 s.2 <;> rfl
  omega
/-- The hull of the honest sources holds what Agree returns. -/
theorem okV_perm {a b : List Sp} (h : a.Perm b) : okV a = okV b := by
  rw [Bool.eq_iff_iff]
  unfold okV
  rw [List.all_eq_true, List.all_eq_true]
  exact ⟨fun g s hs => g s (h.mem_iff.2 hs), fun g s hs => g s (h.mem_iff.1 hs)⟩
theorem qchk_perm {a b : List Sp} (h : a.Perm b) (f : Int) : qchkC a f = qchkC b f := by
  unfold qchkC
  rw [okV_perm h, h.length_eq]
theorem hull_perm {a b : List Sp} (h : a.Perm b) {n : Int} {o : Option Sp} (ho : IsHull a n o) : IsHull b n o := by
  cases o with
  | none => intro t; rw [← cnt_perm h]; exact ho t
  | some s => exact ⟨by rw [← cnt_perm h]; exact ho.1, by rw [← cnt_perm h]; exact ho.2.1, fun t ht => ho.2.2 t (by rw [cnt_perm h]; exact ht)⟩
theorem AgO.uniq {l : List Sp} {f : Int} {o o' : Option Sp} (h : AgO l f o) (h' : AgO l f o') : o = o' := by
  unfold AgO at h h'
  by_cases hq : qchkC l f = 0
  · rw [if_pos hq] at h h'; exact IsHull.uniq h h'
  · rw [if_neg hq] at h h'; rw [h, h']
theorem AgO.perm {a b : List Sp} (h : a.Perm b) {f : Int} {o : Option Sp} (ho : AgO a f o) : AgO b f o := by
  unfold AgO at *
  rw [← qchk_perm h, ← h.length_eq]
  split
  · rw [if_pos (by assumption)] at ho; exact hull_perm h ho
  · rw [if_neg (by assumption)] at ho; exact ho
theorem agC_perm {a b : List Sp} (h : a.Perm b) (f : Int) (o : Option Sp) : agC a f o = agC b f o := by
  unfold agC; rw [qchk_perm h]
end Go.Proofs.Ytiiaghmdajdbbaa

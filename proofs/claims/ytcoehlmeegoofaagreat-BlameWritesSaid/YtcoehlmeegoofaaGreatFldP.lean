/- Proofs of misbehaviour as fields: what Encode lays, which fields Decode takes. Plain: no program in sight. -/
import Derived.Test.YtcoehlmeegoofaaGreatFldL
namespace Go.Proofs.YtcoehlmeegoofaaGreat
open Go
set_option linter.unusedVariables false
/-- A link: public key, blind, answer. -/
abbrev Lk := Bs × Bs × Bs
def lkF (t : Lk) : List Fd := [(1, t.1), (2, t.2.1), (3, t.2.2)]
def encF (ls : List Lk) (f s : Nat) : List Fd := ls.flatMap lkF ++ [(4, [UInt8.ofNat f, UInt8.ofNat s])]
theorem lkF_len (ls : List Lk) : (ls.flatMap lkF).length = 3 * ls.length := by
  induction ls with
  | nil => rfl
  | cons t ls ih => rw [List.flatMap_cons, List.length_append, ih, List.length_cons]; show 3 + _ = _; omega
theorem encF_len (ls : List Lk) (f s : Nat) : (encF ls f s).length = 3 * ls.length + 1 := by unfold encF; rw [List.length_append, lkF_len]; rfl
theorem lkF_get (ls : List Lk) : ∀ (k : Nat) (t : Lk), ls[k]? = some t → (ls.flatMap lkF)[3 * k]? = some (1, t.1) ∧ (ls.flatMap lkF)[3 * k + 1]? = some (2, t.2.1) ∧ (ls.flatMap lkF)[3 * k + 2]? = some (3, t.2.2) := by
  induction ls with
  | nil => intro k t h; simp at h
  | cons a ls ih =>
    intro k t h
    cases k with
    | zero => simp at h; subst h; exact ⟨rfl, rfl, rfl⟩
    | succ k =>
      rw [List.getElem?_cons_succ] at h
      have := ih k t h
      rw [List.flatMap_cons, show 3 * (k + 1) = 3 * k + 1 + 1 + 1 by omega]
      exact this
theorem encF_get {ls : List Lk} {f s k : Nat} {t : Lk} (h : ls[k]? = some t) : (encF ls f s)[3 * k]? = some (1, t.1) ∧ (encF ls f s)[3 * k + 1]? = some (2, t.2.1) ∧ (encF ls f s)[3 * k + 2]? = some (3, t.2.2) := by
  have hk := (List.getElem?_eq_some_iff.1 h).1
  have hl := lkF_len ls
  unfold encF
  rw [List.getElem?_append_left (by omega), List.getElem?_append_left (by omega), List.getElem?_append_left (by omega)]
  exact lkF_get ls k t h
theorem encF_last (ls : List Lk) (f s : Nat) : (encF ls f s)[3 * ls.length]? = some (4, [UInt8.ofNat f, UInt8.ofNat s]) := by
  unfold encF
  rw [List.getElem?_append_right (by rw [lkF_len]; exact Nat.le_refl _), lkF_len, Nat.sub_self]; rfl
/-- The data of three fields. -/
def trip (l : List Fd) (k : Nat) : Lk := ((l.getD (3 * k) (0, [])).2, (l.getD (3 * k + 1) (0, [])).2, (l.getD (3 * k + 2) (0, [])).2)
def exK (l : List Fd) (m : Nat) : List Lk := (List.range m).map (trip l)
theorem exK_len (l : List Fd) (m : Nat) : (exK l m).length = m := by simp [exK]
theorem exK_succ (l : List Fd) (m : Nat) : exK l (m + 1) = exK l m ++ [trip l m] := by simp [exK, List.range_succ]
theorem exK_get (l : List Fd) {m k : Nat} (h : k < m) : (exK l m)[k]? = some (trip l k) := by simp [exK, h]
theorem getD_of {l : List Fd} {k : Nat} {x : Fd} (h : l[k]? = some x) : l.getD k (0, []) = x := by rw [List.getD_eq_getElem?_getD, h]; rfl
theorem exK_enc (ls : List Lk) (f s : Nat) : exK (encF ls f s) ls.length = ls := by
  apply List.ext_getElem?
  intro k
  rcases Nat.lt_or_ge k ls.length with h | h
  · obtain ⟨t, ht⟩ : ∃ t, ls[k]? = some t := ⟨_, List.getElem?_eq_getElem h⟩
    obtain ⟨h1, h2, h3⟩ := encF_get (f := f) (s := s) ht
    rw [exK_get _ h, ht]
    unfold trip
    rw [getD_of h1, getD_of h2, getD_of h3]
  · rw [List.getElem?_eq_none h, List.getElem?_eq_none (by rw [exK_len]; exact h)]
theorem ofNat_inj {a b : Nat} (ha : a ≤ 255) (hb : b ≤ 255) (h : UInt8.ofNat a = UInt8.ofNat b) : a = b := by
  have := congrArg UInt8.toNat h
  rw [UInt8.toNat_ofNat', UInt8.toNat_ofNat'] at this
  omega
/-- The fields of a proof. -/
def DecL (l : List Fd) (o : Option (List Lk × Nat × Nat)) : Prop :=
  match o with
  | some p => l = encF p.1 p.2.1 p.2.2 ∧ p.1.length ≤ 8 ∧ p.2.1 ≤ 255 ∧ p.2.2 ≤ 255
  | none => ∀ (ls : List Lk) (f s : Nat), ls.length ≤ 8 → f ≤ 255 → s ≤ 255 → l ≠ encF ls f s
theorem encF_inj {ls ls' : List Lk} {f f' s s' : Nat} (h1 : f ≤ 255) (h2 : s ≤ 255) (h3 : f' ≤ 255) (h4 : s' ≤ 255) (h : encF ls f s = encF ls' f' s') : ls = ls' ∧ f = f' ∧ s = s' := by
  have e := congrArg List.length h
  rw [encF_len, encF_len] at e
  have e0 : ls.length = ls'.length := by omega
  have e1 : ls = ls' := by rw [← exK_enc ls f s, h, e0, exK_enc]
  subst e1
  have e2 := encF_last ls f s
  rw [h, encF_last] at e2
  injection e2 with e2
  injection e2 with _ e2
  injection e2 with e3 e4
  injection e4 with e4
  exact ⟨rfl, (ofNat_inj h3 h1 e3).symm, (ofNat_inj h4 h2 e4).symm⟩
theorem DecL.uniq {l : List Fd} {o o' : Option (List Lk × Nat × Nat)} (h : DecL l o) (h' : DecL l o') : o = o' := by
  cases o with
  | none =>
    cases o' with
    | none => rfl
    | some p => exact absurd h'.1 (h _ _ _ h'.2.1 h'.2.2.1 h'.2.2.2)
  | some p =>
    cases o' with
    | none => exact absurd h.1 (h' _ _ _ h.2.1 h.2.2.1 h.2.2.2)
    | some p' =>
      obtain ⟨ls, f, s⟩ := p
      obtain ⟨ls', f', s'⟩ := p'
      obtain ⟨rfl, rfl, rfl⟩ := encF_inj h.2.2.1 h.2.2.2 h'.2.2.1 h'.2.2.2 (h.1.symm.trans h'.1)
      rfl
/-- What is taken has the form. -/
theorem fdec_form {l : List Fd} {ls : List Lk} {f s : Nat} (h : l = encF ls f s) : l.length = 3 * ls.length + 1 ∧ l[3 * ls.length]? = some (4, [UInt8.ofNat f, UInt8.ofNat s]) ∧ exK l ls.length = ls := by
  subst h; exact ⟨encF_len _ _ _, encF_last _ _ _, exK_enc _ _ _⟩
theorem dec_no_len {l : List Fd} (h : l.length % 3 ≠ 1) : DecL l none := fun ls f s _ _ _ e => by have := (fdec_form e).1; omega
theorem dec_no_last {l : List Fd} {m : Nat} {x : Fd} (hm : l.length = 3 * m + 1) (hx : l[3 * m]? = some x) (h : x.1 ≠ 4 ∨ x.2.length ≠ 2) : DecL l none := fun ls f s _ _ _ e => by
  obtain ⟨h1, h2, -⟩ := fdec_form e
  have : ls.length = m := by omega
  rw [this, hx] at h2
  injection h2 with h2
  subst h2
  rcases h with h | h
  · exact h rfl
  · exact h rfl
theorem dec_no_many {l : List Fd} {m : Nat} (hm : l.length = 3 * m + 1) (h : 8 < m) : DecL l none := fun ls f s k _ _ e => by have := (fdec_form e).1; omega
theorem dec_no_type {l : List Fd} {m k : Nat} (hm : l.length = 3 * m + 1) (hk : k < m) (h : (l.getD (3 * k) (0, [])).1 ≠ 1 ∨ (l.getD (3 * k + 1) (0, [])).1 ≠ 2 ∨ (l.getD (3 * k + 2) (0, [])).1 ≠ 3) : DecL l none := fun ls f s _ _ _ e => by
  have hl := (fdec_form e).1
  obtain ⟨t, ht⟩ : ∃ t, ls[k]? = some t := ⟨_, List.getElem?_eq_getElem (by omega)⟩
  obtain ⟨h1, h2, h3⟩ := encF_get (f := f) (s := s) ht
  subst e
  rw [getD_of h1, getD_of h2, getD_of h3] at h
  rcases h with h | h | h <;> exact h rfl
/-- Fields with the right types are those of the proof that is taken out. -/
theorem dec_types {l : List Fd} {m : Nat} {a b : UInt8} (hm : l.length = 3 * m + 1) (hx : l[3 * m]? = some (4, [a, b])) (h : ∀ k, k < m → (l.getD (3 * k) (0, [])).1 = 1 ∧ (l.getD (3 * k + 1) (0, [])).1 = 2 ∧ (l.getD (3 * k + 2) (0, [])).1 = 3) : l = encF (exK l m) a.toNat b.toNat := by
  apply List.ext_getElem?
  intro j
  have hel := encF_len (exK l m) a.toNat b.toNat
  rw [exK_len] at hel
  have hsome : ∀ j x, j < l.length → l.getD j (0, []) = x → l[j]? = some x := fun j x hj hx => by
    rw [List.getD_eq_getElem?_getD, List.getElem?_eq_getElem hj] at hx
    rw [List.getElem?_eq_getElem hj]
    exact congrArg some hx
  rcases Nat.lt_trichotomy j (3 * m) with hj | hj | hj
  · obtain ⟨k, hk⟩ : ∃ k, k = j / 3 := ⟨_, rfl⟩
    have hkm : k < m := by omega
    obtain ⟨t1, t2, t3⟩ := h k hkm
    obtain ⟨e1, e2, e3⟩ := encF_get (f := a.toNat) (s := b.toNat) (exK_get l hkm)
    have hj3 : j = 3 * k ∨ j = 3 * k + 1 ∨ j = 3 * k + 2 := by omega
    rcases hj3 with rfl | rfl | rfl
    · rw [e1]; exact hsome _ _ (by omega) (Prod.ext t1 rfl)
    · rw [e2]; exact hsome _ _ (by omega) (Prod.ext t2 rfl)
    · rw [e3]; exact hsome _ _ (by omega) (Prod.ext t3 rfl)
  · subst hj
    have := encF_last (exK l m) a.toNat b.toNat
    rw [exK_len] at this
    rw [hx, this, UInt8.ofNat_toNat, UInt8.ofNat_toNat]
  · rw [List.getElem?_eq_none (by omega), List.getElem?_eq_none (by omega)]
theorem dec_yes {l : List Fd} {m : Nat} {a b : UInt8} (hm : l.length = 3 * m + 1) (h8 : m ≤ 8) (h : l = encF (exK l m) a.toNat b.toNat) : DecL l (some (exK l m, a.toNat, b.toNat)) :=
  ⟨h, by rw [exK_len]; exact h8, by have := a.toNat_lt; show a.toNat ≤ 255; omega, by have := b.toNat_lt; show b.toNat ≤ 255; omega⟩
/-- What does not come back is no proof. -/
theorem dec_back {l : List Fd} {m : Nat} {a b : UInt8} (hm : l.length = 3 * m + 1) {x : Fd} (hx : l[3 * m]? = some x) (hab : x.2 = [a, b]) (h : l ≠ encF (exK l m) a.toNat b.toNat) : DecL l none := fun ls f s _ hf hs e => by
  obtain ⟨h1, h2, h3⟩ := fdec_form e
  have e0 : ls.length = m := by omega
  rw [e0] at h2 h3
  rw [hx] at h2
  injection h2 with h2
  subst h2
  dsimp only at hab
  injection hab with k1 k2
  injection k2 with k2
  refine h ?_
  rw [h3, ← k1, ← k2, UInt8.toNat_ofNat', UInt8.toNat_ofNat', Nat.mod_eq_of_lt (by omega), Nat.mod_eq_of_lt (by omega)]
  exact e
theorem fenc_ok {ls : List Lk} {f s : Nat} (h : ∀ t ∈ ls, t.1.length < 65536 ∧ t.2.1.length < 65536 ∧ t.2.2.length < 65536) : ∀ x ∈ encF ls f s, okF x := by
  intro x hx
  unfold encF at hx
  rcases List.mem_append.1 hx with hx | hx
  · obtain ⟨t, ht, hx⟩ := List.mem_flatMap.1 hx
    obtain ⟨h1, h2, h3⟩ := h t ht
    simp only [lkF, List.mem_cons, List.not_mem_nil, or_false] at hx
    rcases hx with rfl | rfl | rfl
    · exact ⟨show 1 < 65536 by omega, h1⟩
    · exact ⟨show 2 < 65536 by omega, h2⟩
    · exact ⟨show 3 < 65536 by omega, h3⟩
  · rw [List.mem_singleton.1 hx]
    exact ⟨show 4 < 65536 by omega, by simp⟩
theorem trip_ok {l : List Fd} (h : ∀ x ∈ l, okF x) (m : Nat) : ∀ t ∈ exK l m, t.1.length < 65536 ∧ t.2.1.length < 65536 ∧ t.2.2.length < 65536 := by
  have hd : ∀ j, (l.getD j (0, [])).2.length < 65536 := fun j => by
    rw [List.getD_eq_getElem?_getD]
    cases hj : l[j]? with
    | none => simp
    | some x => exact (h x (List.mem_of_getElem? hj)).2
  intro t ht
  obtain ⟨k, -, rfl⟩ := List.mem_map.1 ht
  exact ⟨hd _, hd _, hd _⟩
/-- A proof comes back out of its bytes. -/
theorem fdec_enc {ls : List Lk} {f s : Nat} (h8 : ls.length ≤ 8) (hf : f ≤ 255) (hs : s ≤ 255) : DecL (encF ls f s) (some (ls, f, s)) := ⟨rfl, h8, hf, hs⟩
end Go.Proofs.YtcoehlmeegoofaaGreat

/- Coarse-time messages as plain functions on lists of bytes: names, places, Encode, Decode. No program in sight. -/
import Derived.Test.YtkefbjpdpcmpnaaGreatRecs
namespace Go.Proofs.YtkefbjpdpcmpnaaGreat
set_option linter.unusedVariables false
def upB (x : UInt8) : Bool := (decide (65 ≤ x.toNat) && decide (x.toNat ≤ 90)) || (decide (48 ≤ x.toNat) && decide (x.toNat ≤ 57))
def namedG (s : Bs) : Bool := decide (s.length = 4) && s.all upB
/-- The first error of names and data, behind a name. -/
def checkT (last : Bs) : List (Bs × Bs) → Int
  | [] => 0
  | t :: r => if namedG t.1 = true then (if (Op.bytesLess t.1 last || t.1 == last) = true then 12 else if t.2.length % 4 = 0 then checkT t.1 r else 3) else 11
def namesT (ts : List (Bs × Bs)) : Bs := (ts.map (·.1)).flatten
def dataT (ts : List (Bs × Bs)) : Bs := (ts.map (·.2)).flatten
/-- The places of the data of tags 1 to k. -/
def placesT (ts : List (Bs × Bs)) : Nat → Bs
  | 0 => []
  | k + 1 => placesT ts k ++ putB 4 (dataT (ts.take (k + 1))).length
def bodyT (ts : List (Bs × Bs)) : Bs := putB 4 ts.length ++ placesT ts (ts.length - 1) ++ namesT ts ++ dataT ts
def placeN (b : Bs) (i : Nat) : Nat := getB ((b.drop (4 * i)).take 4)
/-- Where the data of tag i begin, but for the end. -/
def fromN (b : Bs) (i : Nat) : Nat := if i = 0 then 0 else placeN b i
/-- The first k places behind 0 are in order. -/
def placesOk (b : Bs) (size : Nat) : Nat → Bool
  | 0 => true
  | k + 1 => placesOk b size k && (decide (placeN b (k + 1) % 4 = 0) && decide (fromN b k ≤ placeN b (k + 1)) && decide (placeN b (k + 1) ≤ size))
def atN (b : Bs) (n size i : Nat) : Nat := if i < n then fromN b i else size
def tagN (b : Bs) (n i : Nat) : Bs × Bs :=
  ((b.drop (4 * (n + i))).take 4, ((b.drop (8 * n)).drop (atN b n (b.length - 8 * n) i)).take (atN b n (b.length - 8 * n) (i + 1) - atN b n (b.length - 8 * n) i))
def tagsN (b : Bs) (n : Nat) : List (Bs × Bs) := (List.range n).map (tagN b n)
def decC (b : Bs) : Int :=
  if 2048 < b.length then 2 else if b.length < 4 then 1 else
  if placeN b 0 < 1 ∨ 16 < placeN b 0 then 8 else if b.length < 8 * placeN b 0 then 1 else
  if placesOk b (b.length - 8 * placeN b 0) (placeN b 0 - 1) = true ∧ (b.length - 8 * placeN b 0) % 4 = 0 then checkT [] (tagsN b (placeN b 0)) else 3
def decT (b : Bs) : List (Bs × Bs) := if decC b = 0 then tagsN b (placeN b 0) else []
def encC (ts : List (Bs × Bs)) : Int :=
  if ts.length < 1 ∨ 16 < ts.length then 8 else if checkT [] ts = 0 then (if 2048 < (bodyT ts).length then 2 else 0) else checkT [] ts
def encT (ts : List (Bs × Bs)) : Bs := if encC ts = 0 then bodyT ts else []
theorem placesT_len (ts : List (Bs × Bs)) (k : Nat) : (placesT ts k).length = 4 * k := by
  induction k with
  | zero => rfl
  | succ k ih => rw [placesT, List.length_append, ih, putB_len]; omega
theorem take_one {α : Type} (ts : List α) (k : Nat) (t : α) (h : ts[k]? = some t) : ts.take (k + 1) = ts.take k ++ [t] := by
  rw [List.take_add_one, h]; rfl
theorem namesT_step (ts : List (Bs × Bs)) (k : Nat) (t : Bs × Bs) (h : ts[k]? = some t) : namesT (ts.take (k + 1)) = namesT (ts.take k) ++ t.1 := by
  rw [take_one ts k t h]; simp [namesT]
theorem dataT_step (ts : List (Bs × Bs)) (k : Nat) (t : Bs × Bs) (h : ts[k]? = some t) : dataT (ts.take (k + 1)) = dataT (ts.take k) ++ t.2 := by
  rw [take_one ts k t h]; simp [dataT]
theorem drop_one {α : Type} (ts : List α) (k : Nat) (t : α) (h : ts[k]? = some t) : ts.drop k = t :: ts.drop (k + 1) := by
  obtain ⟨hk, rfl⟩ := List.getElem?_eq_some_iff.1 h
  exact List.drop_eq_getElem_cons hk
theorem checkT_ok (ts : List (Bs × Bs)) : ∀ last, checkT last ts = 0 → ∀ t ∈ ts, t.1.length = 4 ∧ t.2.length % 4 = 0 := by
  induction ts with
  | nil => intro last h t ht; simp at ht
  | cons a r ih =>
    intro last h t ht
    rw [checkT] at h
    split at h
    · rename_i hn
      split at h
      · simp at h
      · split at h
        · rename_i h4
          rcases List.mem_cons.1 ht with rfl | ht
          · refine ⟨?_, h4⟩
            unfold namedG at hn
            simp at hn
            exact hn.1
          · exact ih _ h t ht
        · simp at h
    · simp at h
theorem namesT_len (ts : List (Bs × Bs)) (h : ∀ t ∈ ts, t.1.length = 4) : (namesT ts).length = 4 * ts.length := by
  induction ts with
  | nil => rfl
  | cons a r ih =>
    have h1 := h a (by simp)
    have h2 := ih (fun t ht => h t (by simp [ht]))
    simp only [namesT, List.map_cons, List.flatten_cons, List.length_append, List.length_cons] at *
    omega
theorem bodyT_len (ts : List (Bs × Bs)) (h : ∀ t ∈ ts, t.1.length = 4) (h1 : 1 ≤ ts.length) : (bodyT ts).length = 8 * ts.length + (dataT ts).length := by
  rw [bodyT, List.length_append, List.length_append, List.length_append, putB_len, placesT_len, namesT_len ts h]
  omega
theorem checkT_step (ts : List (Bs × Bs)) (k : Nat) (t : Bs × Bs) (last : Bs) (h : ts[k]? = some t) (hn : namedG t.1 = true) (ho : (Op.bytesLess t.1 last || t.1 == last) = false) (h4 : t.2.length % 4 = 0) :
    checkT last (ts.drop k) = checkT t.1 (ts.drop (k + 1)) := by
  rw [drop_one ts k t h, checkT, if_pos hn, ho, if_neg (by simp), if_pos h4]
theorem checkT_name (ts : List (Bs × Bs)) (k : Nat) (t : Bs × Bs) (last : Bs) (h : ts[k]? = some t) (hn : namedG t.1 = false) : checkT last (ts.drop k) = 11 := by
  rw [drop_one ts k t h, checkT, hn, if_neg (by simp)]
theorem checkT_order (ts : List (Bs × Bs)) (k : Nat) (t : Bs × Bs) (last : Bs) (h : ts[k]? = some t) (hn : namedG t.1 = true) (ho : (Op.bytesLess t.1 last || t.1 == last) = true) : checkT last (ts.drop k) = 12 := by
  rw [drop_one ts k t h, checkT, if_pos hn, if_pos ho]
theorem checkT_form (ts : List (Bs × Bs)) (k : Nat) (t : Bs × Bs) (last : Bs) (h : ts[k]? = some t) (hn : namedG t.1 = true) (ho : (Op.bytesLess t.1 last || t.1 == last) = false) (h4 : t.2.length % 4 ≠ 0) : checkT last (ts.drop k) = 3 := by
  rw [drop_one ts k t h, checkT, if_pos hn, ho, if_neg (by simp), if_neg h4]
/-- Tags as cells. -/
def tagS (ts : List (Bs × Bs)) : List Spec := ts.flatMap fun t => [.val (.string (strB t.1)), .byt t.2]
theorem tagS_len (ts : List (Bs × Bs)) : (tagS ts).length = ts.length * 2 := by
  induction ts with
  | nil => rfl
  | cons a r ih => simp only [tagS, List.flatMap_cons, List.length_append, List.length_cons, List.length_nil] at *; omega
theorem tagS_get (ts : List (Bs × Bs)) : ∀ (k : Nat) (t : Bs × Bs), ts[k]? = some t → (tagS ts)[2 * k]? = some (.val (.string (strB t.1))) ∧ (tagS ts)[2 * k + 1]? = some (.byt t.2) := by
  induction ts with
  | nil => intro k t h; simp at h
  | cons a r ih =>
    intro k t h
    cases k with
    | zero =>
      simp at h
      subst h
      exact ⟨rfl, rfl⟩
    | succ k =>
      rw [List.getElem?_cons_succ] at h
      obtain ⟨h1, h2⟩ := ih k t h
      rw [show 2 * (k + 1) = 2 * k + 2 from by omega, show 2 * k + 2 + 1 = 2 * k + 1 + 2 from by omega]
      exact ⟨h1, h2⟩
theorem tagS_append (a b : List (Bs × Bs)) : tagS (a ++ b) = tagS a ++ tagS b := by simp [tagS]
end Go.Proofs.YtkefbjpdpcmpnaaGreat

/- Fields in bytes: what Write lays, what Fields reads; proofs of misbehaviour as bytes. Plain: no program in sight. -/
import Derived.Test.YtcoehlmeegoofaaGreatFB
namespace Go.Proofs.YtcoehlmeegoofaaGreat
open Go
set_option linter.unusedVariables false
theorem putB2 (n : Nat) : putB 2 n = [UInt8.ofNat (n / 256), UInt8.ofNat n] := rfl
theorem getB2 (a b : UInt8) : getB [a, b] = a.toNat * 256 + b.toNat := by
  have := a.toNat_lt
  have := b.toNat_lt
  simp [getB]
  omega
theorem getB_put2 (n : Nat) (h : n < 65536) : getB (putB 2 n) = n := by
  rw [putB2, getB2, UInt8.toNat_ofNat', UInt8.toNat_ofNat']
  omega
theorem putB_get2 (l : Bs) (h : l.length = 2) : putB 2 (getB l) = l := by
  obtain ⟨a, b, rfl⟩ : ∃ a b, l = [a, b] := by
    match l, h with
    | [a, b], _ => exact ⟨a, b, rfl⟩
  have ha := a.toNat_lt
  have hb := b.toNat_lt
  rw [putB2, getB2]
  congr 1
  · apply UInt8.toNat.inj; rw [UInt8.toNat_ofNat']; omega
  · congr 1; apply UInt8.toNat.inj; rw [UInt8.toNat_ofNat']; omega
/-- A field: its type, its data. -/
abbrev Fd := Nat × Bs
def fdB (f : Fd) : Bs := putB 2 f.1 ++ (putB 2 f.2.length ++ f.2)
def wrF (l : List Fd) : Bs := l.flatMap fdB
def okF (f : Fd) : Prop := f.1 < 65536 ∧ f.2.length < 65536
theorem fdB_len (f : Fd) : (fdB f).length = 4 + f.2.length := by unfold fdB; rw [List.length_append, List.length_append, putB_len, putB_len]; omega
theorem wrF_nil : wrF [] = [] := rfl
theorem wrF_cons (f : Fd) (l : List Fd) : wrF (f :: l) = fdB f ++ wrF l := List.flatMap_cons
theorem wrF_append (a b : List Fd) : wrF (a ++ b) = wrF a ++ wrF b := List.flatMap_append
theorem wrF_one (f : Fd) : wrF [f] = fdB f := by rw [wrF_cons, wrF_nil, List.append_nil]
/-- The type and the length at the head of bytes. -/
def tyF (r : Bs) : Nat := getB (r.take 2)
def ndF (r : Bs) : Nat := getB ((r.drop 2).take 2)
theorem get2_lt (l : Bs) (h : l.length = 2) : getB l < 65536 := by
  match l, h with
  | [a, b], _ =>
    have := a.toNat_lt
    have := b.toNat_lt
    rw [getB2]
    omega
theorem ndF_lt {r : Bs} (h : 4 ≤ r.length) : ndF r < 65536 := get2_lt _ (by rw [List.length_take, List.length_drop]; omega)
theorem tyF_lt {r : Bs} (h : 4 ≤ r.length) : tyF r < 65536 := get2_lt _ (by rw [List.length_take]; omega)
theorem tyF_fd (f : Fd) (r : Bs) (h : okF f) : tyF (fdB f ++ r) = f.1 := by
  unfold tyF fdB
  rw [List.append_assoc, List.take_left' (putB_len 2 _)]
  exact getB_put2 _ h.1
theorem ndF_fd (f : Fd) (r : Bs) (h : okF f) : ndF (fdB f ++ r) = f.2.length := by
  unfold ndF fdB
  rw [List.append_assoc, List.drop_left' (putB_len 2 _), List.append_assoc, List.take_left' (putB_len 2 _)]
  exact getB_put2 _ h.2
theorem dataF_fd (f : Fd) (r : Bs) : ((fdB f ++ r).drop 4).take f.2.length = f.2 := by
  unfold fdB
  rw [List.append_assoc, List.append_assoc, ← List.append_assoc, List.drop_left' (by rw [List.length_append, putB_len, putB_len]), List.take_left' rfl]
theorem restF_fd (f : Fd) (r : Bs) : (fdB f ++ r).drop (4 + f.2.length) = r := List.drop_left' (fdB_len f)
theorem fdB_inj {x y : Fd} {r s : Bs} (hx : okF x) (hy : okF y) (h : fdB x ++ r = fdB y ++ s) : x = y ∧ r = s := by
  have h1 := congrArg tyF h
  have h2 := congrArg ndF h
  rw [tyF_fd x r hx, tyF_fd y s hy] at h1
  rw [ndF_fd x r hx, ndF_fd y s hy] at h2
  have h3 := congrArg (fun z => (z.drop 4).take x.2.length) h
  rw [dataF_fd x r, h2, dataF_fd y s] at h3
  have e : x = y := Prod.ext h1 h3
  subst e
  exact ⟨rfl, List.append_cancel_left h⟩
theorem wrF_inj : ∀ {l l' : List Fd}, (∀ f ∈ l, okF f) → (∀ f ∈ l', okF f) → wrF l = wrF l' → l = l'
  | [], [], _, _, _ => rfl
  | [], y :: l', _, _, h => by
    have := congrArg List.length h
    rw [wrF_cons, List.length_append, fdB_len] at this
    have h0 : (wrF []).length = 0 := rfl
    omega
  | x :: l, [], _, _, h => by
    have := congrArg List.length h
    rw [wrF_cons, List.length_append, fdB_len] at this
    have h0 : (wrF []).length = 0 := rfl
    omega
  | x :: l, y :: l', hx, hy, h => by
    rw [wrF_cons, wrF_cons] at h
    obtain ⟨rfl, h2⟩ := fdB_inj (hx x (List.mem_cons_self ..)) (hy y (List.mem_cons_self ..)) h
    rw [wrF_inj (fun f hf => hx f (List.mem_cons_of_mem _ hf)) (fun f hf => hy f (List.mem_cons_of_mem _ hf)) h2]
/-- What begins with written fields goes on behind them. -/
theorem wrF_rest : ∀ {out l : List Fd} {r : Bs}, (∀ f ∈ out, okF f) → (∀ f ∈ l, okF f) → wrF l = wrF out ++ r → ∃ l', l = out ++ l' ∧ wrF l' = r
  | [], l, r, _, _, h => ⟨l, rfl, h⟩
  | x :: out, [], r, _, _, h => by
    have := congrArg List.length h
    rw [wrF_cons, List.length_append, List.length_append, fdB_len] at this
    have h0 : (wrF []).length = 0 := rfl
    omega
  | x :: out, y :: l, r, hx, hy, h => by
    rw [wrF_cons, wrF_cons, List.append_assoc] at h
    obtain ⟨rfl, h2⟩ := fdB_inj (hy y (List.mem_cons_self ..)) (hx x (List.mem_cons_self ..)) h
    obtain ⟨l', rfl, h3⟩ := wrF_rest (fun f hf => hx f (List.mem_cons_of_mem _ hf)) (fun f hf => hy f (List.mem_cons_of_mem _ hf)) h2
    exact ⟨l', rfl, h3⟩
/-- One field more. -/
theorem field_split {r : Bs} (h1 : 4 ≤ r.length) (h2 : ndF r ≤ r.length - 4) : okF (tyF r, (r.drop 4).take (ndF r)) ∧ r = fdB (tyF r, (r.drop 4).take (ndF r)) ++ r.drop (4 + ndF r) := by
  match r, h1 with
  | a :: b :: c :: d :: t, _ =>
    have h3 : ndF (a :: b :: c :: d :: t) = getB [c, d] := rfl
    have h4 : tyF (a :: b :: c :: d :: t) = getB [a, b] := rfl
    have hl : (t.take (getB [c, d])).length = getB [c, d] := by
      rw [List.length_take]
      rw [h3] at h2
      simp at h2
      omega
    have hac := a.toNat_lt
    have hbc := b.toNat_lt
    have hcc := c.toNat_lt
    have hdc := d.toNat_lt
    have ha : getB [a, b] < 65536 := by rw [getB2]; omega
    have hb : getB [c, d] < 65536 := by rw [getB2]; omega
    rw [h3, h4]
    refine ⟨⟨ha, ?_⟩, ?_⟩
    · show (t.take (getB [c, d])).length < 65536
      rw [hl]; exact hb
    · unfold fdB
      show _ = putB 2 (getB [a, b]) ++ (putB 2 (t.take (getB [c, d])).length ++ t.take (getB [c, d])) ++ _
      rw [hl, putB_get2 _ rfl, putB_get2 _ rfl, Nat.add_comm 4]
      simp
/-- No fields where bytes are missing. -/
theorem short_no {r : Bs} (h0 : r ≠ []) (h : r.length < 4 ∨ r.length - 4 < ndF r) {l : List Fd} (hl : ∀ f ∈ l, okF f) : wrF l ≠ r := by
  rintro rfl
  match l with
  | [] => exact h0 rfl
  | f :: l =>
    rw [wrF_cons] at h
    rw [ndF_fd f _ (hl f (List.mem_cons_self ..)), List.length_append, fdB_len] at h
    omega
/-- What Fields returns: the fields, or none. -/
def FieldsR (b : Bs) (o : Option (List Fd)) : Prop :=
  match o with
  | some l => (∀ f ∈ l, okF f) ∧ wrF l = b
  | none => ∀ l, (∀ f ∈ l, okF f) → wrF l ≠ b
theorem FieldsR.uniq {b : Bs} {o o' : Option (List Fd)} (h : FieldsR b o) (h' : FieldsR b o') : o = o' := by
  cases o with
  | none =>
    cases o' with
    | none => rfl
    | some l => exact absurd h'.2 (h l h'.1)
  | some l =>
    cases o' with
    | none => exact absurd h.2 (h' l h.1)
    | some l' => rw [wrF_inj h.1 h'.1 (h.2.trans h'.2.symm)]
theorem fields_no {b : Bs} {out : List Fd} {i : Nat} (ho : ∀ f ∈ out, okF f) (hw : wrF out = b.take i) (h0 : i < b.length) (h : b.length - i < 4 ∨ b.length - i - 4 < ndF (b.drop i)) : FieldsR b none := by
  intro l hl he
  have hb : wrF l = wrF out ++ b.drop i := by rw [he, hw, List.take_append_drop]
  obtain ⟨l', rfl, h3⟩ := wrF_rest ho hl hb
  refine short_no (r := b.drop i) ?_ ?_ (fun f hf => hl f (List.mem_append_right _ hf)) h3
  · intro e; have := congrArg List.length e; rw [List.length_drop] at this; simp at this; omega
  · rw [List.length_drop]; exact h
theorem fields_step {b : Bs} {out : List Fd} {i : Nat} (ho : ∀ f ∈ out, okF f) (hw : wrF out = b.take i) (h1 : 4 ≤ b.length - i) (h2 : ndF (b.drop i) ≤ b.length - i - 4) :
    (∀ f ∈ out ++ [(tyF (b.drop i), ((b.drop i).drop 4).take (ndF (b.drop i)))], okF f) ∧ wrF (out ++ [(tyF (b.drop i), ((b.drop i).drop 4).take (ndF (b.drop i)))]) = b.take (i + 4 + ndF (b.drop i)) := by
  have hr : 4 ≤ (b.drop i).length := by rw [List.length_drop]; exact h1
  obtain ⟨k1, k2⟩ := field_split hr (by rw [List.length_drop]; exact h2)
  refine ⟨fun f hf => ?_, ?_⟩
  · rcases List.mem_append.1 hf with hf | hf
    · exact ho f hf
    · rw [List.mem_singleton.1 hf]; exact k1
  · rw [wrF_append, wrF_one, hw]
    have hl := fdB_len (tyF (b.drop i), ((b.drop i).drop 4).take (ndF (b.drop i)))
    have hm : (((b.drop i).drop 4).take (ndF (b.drop i))).length = ndF (b.drop i) := by rw [List.length_take, List.length_drop, List.length_drop]; omega
    dsimp only at hl
    rw [hm] at hl
    rw [Nat.add_assoc, List.take_add, ← hl]
    congr 1
    exact (List.take_left' rfl).symm.trans (congrArg _ k2.symm)
theorem fields_end {b : Bs} {out : List Fd} {i : Nat} (ho : ∀ f ∈ out, okF f) (hw : wrF out = b.take i) (h0 : b.length ≤ i) : FieldsR b (some out) := ⟨ho, by rw [hw, List.take_of_length_le h0]⟩
end Go.Proofs.YtcoehlmeegoofaaGreat

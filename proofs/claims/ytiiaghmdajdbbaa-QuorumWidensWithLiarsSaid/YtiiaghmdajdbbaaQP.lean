/- Plain mathematics of spans: how many hold an instant, profiles, the hull of instants in at least n spans, sorted lists. No program in sight. -/
namespace Go.Proofs.Ytiiaghmdajdbbaa
abbrev Sp := Int × Int
def hol (t : Int) (s : Sp) : Bool := decide (s.1 ≤ t ∧ t ≤ s.2)
/-- In how many spans an instant lies. -/
def cnt (l : List Sp) (t : Int) : Nat := l.countP (hol t)
theorem cnt_le (l : List Sp) (t : Int) : cnt l t ≤ l.length := List.countP_le_length
theorem cnt_cons (s : Sp) (l : List Sp) (t : Int) : cnt (s :: l) t = cnt l t + if s.1 ≤ t ∧ t ≤ s.2 then 1 else 0 := by
  unfold cnt hol
  rw [List.countP_cons]
  simp only [decide_eq_true_eq]
theorem cnt_perm {a b : List Sp} (h : a.Perm b) (t : Int) : cnt a t = cnt b t := h.countP_eq _
/-- Pieces of a profile below an instant x. -/
def PInv (l : List Sp) (x : Int) (out : List (Int × Int × Int)) : Prop :=
  out.Pairwise (fun a b => a.2.1 < b.1) ∧
  (∀ a ∈ out, a.1 ≤ a.2.1 ∧ a.2.1 < x ∧ ∀ t, a.1 ≤ t → t ≤ a.2.1 → (cnt l t : Int) = a.2.2) ∧
  (∀ t, t < x → 1 ≤ cnt l t → ∃ a ∈ out, a.1 ≤ t ∧ t ≤ a.2.1)
def PAll (l : List Sp) (out : List (Int × Int × Int)) : Prop :=
  out.Pairwise (fun a b => a.2.1 < b.1) ∧
  (∀ a ∈ out, a.1 ≤ a.2.1 ∧ ∀ t, a.1 ≤ t → t ≤ a.2.1 → (cnt l t : Int) = a.2.2) ∧
  (∀ t, 1 ≤ cnt l t → ∃ a ∈ out, a.1 ≤ t ∧ t ≤ a.2.1)
section
variable {l : List Sp} {x y c : Int} {out ini : List (Int × Int × Int)} {q : Int × Int × Int}
theorem PInv.start (h : ∀ t, t < x → cnt l t = 0) : PInv l x [] := ⟨List.Pairwise.nil, fun a ha => absurd ha (by simp), fun t ht h1 => by have := h t ht; omega⟩
theorem PInv.skip (h : PInv l x out) (hxy : x ≤ y) (h0 : ∀ t, x ≤ t → t < y → cnt l t = 0) : PInv l y out := by
  obtain ⟨h1, h2, h3⟩ := h
  refine ⟨h1, fun a ha => ?_, fun t ht hc => ?_⟩
  · obtain ⟨p1, p2, p3⟩ := h2 a ha
    exact ⟨p1, by omega, p3⟩
  · rcases Int.lt_or_le t x with h | h
    · exact h3 t h hc
    · have := h0 t h ht; omega
theorem PInv.push (h : PInv l x out) (hxy : x < y) (h0 : ∀ t, x ≤ t → t < y → (cnt l t : Int) = c) : PInv l y (out ++ [(x, y - 1, c)]) := by
  obtain ⟨h1, h2, h3⟩ := h
  refine ⟨?_, fun a ha => ?_, fun t ht hc => ?_⟩
  · rw [List.pairwise_append]
    refine ⟨h1, List.pairwise_singleton _ _, fun a ha b hb => ?_⟩
    rw [List.mem_singleton] at hb
    subst hb
    exact (h2 a ha).2.1
  · rcases List.mem_append.1 ha with ha | ha
    · obtain ⟨p1, p2, p3⟩ := h2 a ha
      exact ⟨p1, by omega, p3⟩
    · rw [List.mem_singleton] at ha
      subst ha
      exact ⟨by show x ≤ y - 1; omega, by show y - 1 < y; omega, fun t h1 h2 => h0 t h1 (by have : t ≤ y - 1 := h2; omega)⟩
  · rcases Int.lt_or_le t x with h | h
    · obtain ⟨a, ha, hb⟩ := h3 t h hc
      exact ⟨a, List.mem_append_left _ ha, hb⟩
    · exact ⟨(x, y - 1, c), by simp, h, by show t ≤ y - 1; omega⟩
theorem PInv.join (h : PInv l x (ini ++ [q])) (hq : q.2.1 + 1 = x) (hc : q.2.2 = c) (hxy : x < y) (h0 : ∀ t, x ≤ t → t < y → (cnt l t : Int) = c) : PInv l y (ini ++ [(q.1, y - 1, q.2.2)]) := by
  obtain ⟨h1, h2, h3⟩ := h
  rw [List.pairwise_append] at h1
  obtain ⟨k1, -, k3⟩ := h1
  refine ⟨?_, fun a ha => ?_, fun t ht hc' => ?_⟩
  · rw [List.pairwise_append]
    refine ⟨k1, List.pairwise_singleton _ _, fun a ha b hb => ?_⟩
    rw [List.mem_singleton] at hb
    subst hb
    exact k3 a ha q (by simp)
  · rcases List.mem_append.1 ha with ha | ha
    · obtain ⟨p1, p2, p3⟩ := h2 a (List.mem_append_left _ ha)
      exact ⟨p1, by omega, p3⟩
    · rw [List.mem_singleton] at ha
      subst ha
      obtain ⟨p1, p2, p3⟩ := h2 q (by simp)
      refine ⟨by show q.1 ≤ y - 1; omega, by show y - 1 < y; omega, fun t h1 h2 => ?_⟩
      have h2 : t ≤ y - 1 := h2
      rcases Int.lt_or_le t x with h | h
      · exact p3 t h1 (by omega)
      · show (cnt l t : Int) = q.2.2
        rw [hc]; exact h0 t h (by omega)
  · rcases Int.lt_or_le t x with h | h
    · obtain ⟨a, ha, hb⟩ := h3 t h hc'
      rcases List.mem_append.1 ha with ha | ha
      · exact ⟨a, List.mem_append_left _ ha, hb⟩
      · rw [List.mem_singleton] at ha
        subst ha
        exact ⟨(a.1, y - 1, a.2.2), by simp, hb.1, by show t ≤ y - 1; omega⟩
    · have := (h2 q (by simp)).1
      exact ⟨(q.1, y - 1, q.2.2), by simp, by show q.1 ≤ t; omega, by show t ≤ y - 1; omega⟩
theorem PInv.all (h : PInv l x out) (h0 : ∀ t, x ≤ t → cnt l t = 0) : PAll l out := by
  obtain ⟨h1, h2, h3⟩ := h
  exact ⟨h1, fun a ha => ⟨(h2 a ha).1, (h2 a ha).2.2⟩, fun t hc => h3 t (by
    rcases Int.lt_or_le t x with h | h
    · exact h
    · have := h0 t h; omega) hc⟩
end
/-- Spans of the instants of the first k pieces that lie in at least n spans. -/
def LInv (l : List Sp) (n : Int) (ps : List (Int × Int × Int)) (k : Nat) (out : List Sp) : Prop :=
  out.Pairwise (fun a b => a.2 < b.1) ∧
  (∀ a ∈ out, a.1 ≤ a.2 ∧ (∀ (j : Nat) q, k ≤ j → ps[j]? = some q → a.2 < q.1) ∧ ∀ t, a.1 ≤ t → t ≤ a.2 → n ≤ (cnt l t : Int)) ∧
  (∀ (j : Nat) q, j < k → ps[j]? = some q → n ≤ q.2.2 → ∀ t, q.1 ≤ t → t ≤ q.2.1 → ∃ a ∈ out, a.1 ≤ t ∧ t ≤ a.2)
def LAll (l : List Sp) (n : Int) (out : List Sp) : Prop :=
  out.Pairwise (fun a b => a.2 < b.1) ∧ (∀ a ∈ out, a.1 ≤ a.2 ∧ ∀ t, a.1 ≤ t → t ≤ a.2 → n ≤ (cnt l t : Int)) ∧ (∀ t, n ≤ (cnt l t : Int) → ∃ a ∈ out, a.1 ≤ t ∧ t ≤ a.2)
section
variable {l : List Sp} {n : Int} {ps : List (Int × Int × Int)} {k : Nat} {out ini : List Sp} {p : Int × Int × Int} {q : Sp}
theorem LInv.start : LInv l n ps 0 [] := ⟨List.Pairwise.nil, fun a ha => absurd ha (by simp), fun j q hj => absurd hj (by omega)⟩
theorem LInv.skip (h : LInv l n ps k out) (hp : ps[k]? = some p) (hc : p.2.2 < n) : LInv l n ps (k + 1) out := by
  obtain ⟨h1, h2, h3⟩ := h
  refine ⟨h1, fun a ha => ⟨(h2 a ha).1, fun j q hj hq => (h2 a ha).2.1 j q (by omega) hq, (h2 a ha).2.2⟩, fun j q hj hq hn => ?_⟩
  rcases Nat.lt_or_ge j k with h | h
  · exact h3 j q h hq hn
  · obtain rfl : j = k := by omega
    rw [hp] at hq
    obtain rfl := Option.some.inj hq
    omega
theorem pairs_lt (hA : PAll l ps) {i j : Nat} {a b : Int × Int × Int} (ha : ps[i]? = some a) (hb : ps[j]? = some b) (h : i < j) : a.2.1 < b.1 := by
  obtain ⟨hi, rfl⟩ := List.getElem?_eq_some_iff.1 ha
  obtain ⟨hj, rfl⟩ := List.getElem?_eq_some_iff.1 hb
  exact List.pairwise_iff_getElem.1 hA.1 i j hi hj h
theorem LInv.push (hA : PAll l ps) (h : LInv l n ps k out) (hp : ps[k]? = some p) (hc : n ≤ p.2.2) : LInv l n ps (k + 1) (out ++ [(p.1, p.2.1)]) := by
  obtain ⟨h1, h2, h3⟩ := h
  have hpm := hA.2.1 p (List.mem_of_getElem? hp)
  refine ⟨?_, fun a ha => ?_, fun j q hj hq hn t t1 t2 => ?_⟩
  · rw [List.pairwise_append]
    refine ⟨h1, List.pairwise_singleton _ _, fun a ha b hb => ?_⟩
    rw [List.mem_singleton] at hb
    subst hb
    exact (h2 a ha).2.1 k p (Nat.le_refl _) hp
  · rcases List.mem_append.1 ha with ha | ha
    · exact ⟨(h2 a ha).1, fun j q hj hq => (h2 a ha).2.1 j q (by omega) hq, (h2 a ha).2.2⟩
    · rw [List.mem_singleton] at ha
      subst ha
      exact ⟨hpm.1, fun j q hj hq => pairs_lt hA hp hq (by omega), fun t t1 t2 => by rw [hpm.2 t t1 t2]; exact hc⟩
  · rcases Nat.lt_or_ge j k with h | h
    · obtain ⟨a, ha, hb⟩ := h3 j q h hq hn t t1 t2
      exact ⟨a, List.mem_append_left _ ha, hb⟩
    · obtain rfl : j = k := by omega
      rw [hp] at hq
      obtain rfl := Option.some.inj hq
      exact ⟨(p.1, p.2.1), by simp, t1, t2⟩
theorem LInv.join (hA : PAll l ps) (h : LInv l n ps k (ini ++ [q])) (hp : ps[k]? = some p) (hc : n ≤ p.2.2) (hq : q.2 + 1 = p.1) : LInv l n ps (k + 1) (ini ++ [(q.1, p.2.1)]) := by
  obtain ⟨h1, h2, h3⟩ := h
  have hpm := hA.2.1 p (List.mem_of_getElem? hp)
  have hqm := h2 q (by simp)
  rw [List.pairwise_append] at h1
  obtain ⟨k1, -, k3⟩ := h1
  refine ⟨?_, fun a ha => ?_, fun j r hj hr hn t t1 t2 => ?_⟩
  · rw [List.pairwise_append]
    refine ⟨k1, List.pairwise_singleton _ _, fun a ha b hb => ?_⟩
    rw [List.mem_singleton] at hb
    subst hb
    exact k3 a ha q (by simp)
  · rcases List.mem_append.1 ha with ha | ha
    · have := h2 a (List.mem_append_left _ ha)
      exact ⟨this.1, fun j q hj hq => this.2.1 j q (by omega) hq, this.2.2⟩
    · rw [List.mem_singleton] at ha
      subst ha
      refine ⟨by show q.1 ≤ p.2.1; omega, fun j r hj hr => pairs_lt hA hp hr (by omega), fun t t1 t2 => ?_⟩
      rcases Int.lt_or_le t p.1 with h | h
      · exact hqm.2.2 t t1 (by omega)
      · rw [hpm.2 t h t2]; exact hc
  · rcases Nat.lt_or_ge j k with h | h
    · obtain ⟨a, ha, hb⟩ := h3 j r h hr hn t t1 t2
      rcases List.mem_append.1 ha with ha | ha
      · exact ⟨a, List.mem_append_left _ ha, hb⟩
      · rw [List.mem_singleton] at ha
        subst ha
        exact ⟨(a.1, p.2.1), by simp, hb.1, by show t ≤ p.2.1; omega⟩
    · obtain rfl : j = k := by omega
      rw [hp] at hr
      obtain rfl := Option.some.inj hr
      exact ⟨(q.1, p.2.1), by simp, by show q.1 ≤ t; omega, t2⟩
theorem LInv.all (hA : PAll l ps) (h : LInv l n ps ps.length out) (hn : 1 ≤ n) : LAll l n out := by
  obtain ⟨h1, h2, h3⟩ := h
  refine ⟨h1, fun a ha => ⟨(h2 a ha).1, (h2 a ha).2.2⟩, fun t ht => ?_⟩
  obtain ⟨a, ha, t1, t2⟩ := hA.2.2 t (by omega)
  obtain ⟨j, hj⟩ := List.getElem?_of_mem ha
  exact h3 j a (List.getElem?_eq_some_iff.1 hj).1 hj (by rw [← (hA.2.1 a ha).2 t t1 t2]; exact ht) t t1 t2
end
/-- The span from the least to the greatest instant in at least n spans, or that there is none. -/
def IsHull (l : List Sp) (n : Int) : Option Sp → Prop
  | none => ∀ t, (cnt l t : Int) < n
  | some s => n ≤ (cnt l s.1 : Int) ∧ n ≤ (cnt l s.2 : Int) ∧ ∀ t, n ≤ (cnt l t : Int) → s.1 ≤ t ∧ t ≤ s.2
theorem IsHull.uniq {l : List Sp} {n : Int} {a b : Option Sp} (ha : IsHull l n a) (hb : IsHull l n b) : a = b := by
  cases a with
  | none =>
    cases b with
    | none => rfl
    | some s => have := ha s.1; have := hb.1; omega
  | some r =>
    cases b with
    | none => have := hb r.1; have := ha.1; omega
    | some s =>
      obtain ⟨a1, a2, a3⟩ := ha
      obtain ⟨b1, b2, b3⟩ := hb
      have := a3 _ b1
      have := a3 _ b2
      have := b3 _ a1
      have := b3 _ a2
      congr 1
      exact Prod.ext (by omega) (by omega)
theorem LAll.none {l : List Sp} {n : Int} (h : LAll l n []) : IsHull l n none := fun t => by
  rcases Int.lt_or_le (cnt l t : Int) n with h1 | h1
  · exact h1
  · obtain ⟨a, ha, -⟩ := h.2.2 t h1
    cases ha
theorem pair_first {α : Type} {R : α → α → Prop} {out : List α} {a b : α} (h : out.Pairwise R) (ha : out[0]? = some a) (hb : b ∈ out) : a = b ∨ R a b := by
  obtain ⟨j, hj⟩ := List.getElem?_of_mem hb
  obtain ⟨h0, rfl⟩ := List.getElem?_eq_some_iff.1 ha
  obtain ⟨h1, rfl⟩ := List.getElem?_eq_some_iff.1 hj
  rcases Nat.eq_zero_or_pos j with rfl | h2
  · exact .inl rfl
  · exact .inr (List.pairwise_iff_getElem.1 h 0 j h0 h1 h2)
theorem pair_last {α : Type} {R : α → α → Prop} {out : List α} {a b : α} (h : out.Pairwise R) (ha : out[out.length - 1]? = some a) (hb : b ∈ out) : b = a ∨ R b a := by
  obtain ⟨j, hj⟩ := List.getElem?_of_mem hb
  obtain ⟨h0, rfl⟩ := List.getElem?_eq_some_iff.1 ha
  obtain ⟨h1, rfl⟩ := List.getElem?_eq_some_iff.1 hj
  rcases Nat.lt_or_ge j (out.length - 1) with h2 | h2
  · exact .inr (List.pairwise_iff_getElem.1 h j _ h1 h0 h2)
  · obtain rfl : j = out.length - 1 := by omega
    exact .inl rfl
theorem LAll.some {l : List Sp} {n : Int} {out : List Sp} {a b : Sp} (h : LAll l n out) (ha : out[0]? = some a) (hb : out[out.length - 1]? = some b) : IsHull l n (some (a.1, b.2)) := by
  obtain ⟨h1, h2, h3⟩ := h
  have ma := h2 a (List.mem_of_getElem? ha)
  have mb := h2 b (List.mem_of_getElem? hb)
  refine ⟨ma.2 _ (Int.le_refl _) ma.1, mb.2 _ mb.1 (Int.le_refl _), fun t ht => ?_⟩
  obtain ⟨c, hc, t1, t2⟩ := h3 t ht
  have mc := h2 c hc
  constructor
  · rcases pair_first h1 ha hc with e | e
    · subst e; exact t1
    · show a.1 ≤ t; omega
  · rcases pair_last h1 hb hc with e | e
    · subst e; exact t2
    · show t ≤ b.2; omega
/-- Beginnings, and the instants behind the ends. -/
def evs (l : List Sp) : List (Int × Int) := l.flatMap fun s => [(s.1, 1), (s.2 + 1, -1)]
def sumTo (d : List (Int × Int)) (t : Int) : Int := (d.map fun e => if e.1 ≤ t then e.2 else 0).sum
theorem sumTo_cons (e : Int × Int) (d : List (Int × Int)) (t : Int) : sumTo (e :: d) t = (if e.1 ≤ t then e.2 else 0) + sumTo d t := by simp [sumTo]
theorem evs_cons (s : Sp) (l : List Sp) : evs (s :: l) = (s.1, 1) :: (s.2 + 1, -1) :: evs l := rfl
theorem evs_len (l : List Sp) : (evs l).length = 2 * l.length := by
  induction l with
  | nil => rfl
  | cons s l ih => rw [evs_cons]; simp [ih]; omega
theorem sumTo_evs {l : List Sp} (h : ∀ s ∈ l, s.1 ≤ s.2) (t : Int) : sumTo (evs l) t = cnt l t := by
  induction l with
  | nil => rfl
  | cons s l ih =>
    rw [evs_cons, sumTo_cons, sumTo_cons, ih (fun s hs => h s (by simp [hs])), cnt_cons]
    have := h s (by simp)
    dsimp only
    by_cases h1 : s.1 ≤ t
    · by_cases h2 : t ≤ s.2
      · rw [if_pos h1, if_neg (by omega), if_pos ⟨h1, h2⟩]; omega
      · rw [if_pos h1, if_pos (by omega), if_neg (by omega)]; omega
    · rw [if_neg h1, if_neg (by omega), if_neg (by omega)]; omega
theorem sumTo_perm {a b : List (Int × Int)} (h : a.Perm b) (t : Int) : sumTo a t = sumTo b t := by
  induction h with
  | nil => rfl
  | cons x _ ih => rw [sumTo_cons, sumTo_cons, ih]
  | swap x y l => rw [sumTo_cons, sumTo_cons, sumTo_cons, sumTo_cons]; omega
  | trans _ _ i1 i2 => rw [i1, i2]
def byS (d : List (Int × Int)) (k : Nat) : Int := ((d.take k).map (·.2)).sum
theorem sumTo_append (a b : List (Int × Int)) (t : Int) : sumTo (a ++ b) t = sumTo a t + sumTo b t := by simp [sumTo]
theorem sumTo_all {a : List (Int × Int)} {t : Int} (h : ∀ e ∈ a, e.1 ≤ t) : sumTo a t = (a.map (·.2)).sum := by
  unfold sumTo
  congr 1
  exact List.map_congr_left fun e he => if_pos (h e he)
theorem sumTo_none {a : List (Int × Int)} {t : Int} (h : ∀ e ∈ a, t < e.1) : sumTo a t = 0 := by
  induction a with
  | nil => rfl
  | cons e a ih => rw [sumTo_cons, ih (fun e he => h e (by simp [he])), if_neg (by have := h e (by simp); omega)]; rfl
/-- In a sorted list, the events up to t are those in front. -/
theorem sumTo_sorted {d : List (Int × Int)} {k : Nat} {t : Int} (h1 : ∀ (j : Nat) e, d[j]? = some e → j < k → e.1 ≤ t) (h2 : ∀ (j : Nat) e, d[j]? = some e → k ≤ j → t < e.1) : sumTo d t = byS d k := by
  conv => lhs; rw [← List.take_append_drop k d]
  rw [sumTo_append, sumTo_all (a := d.take k), sumTo_none (a := d.drop k), Int.add_zero]; rfl
  · intro e he
    obtain ⟨j, hj⟩ := List.getElem?_of_mem he
    rw [List.getElem?_drop] at hj
    exact h2 _ _ hj (by omega)
  · intro e he
    obtain ⟨j, hj⟩ := List.getElem?_of_mem he
    rw [List.getElem?_take] at hj
    split at hj
    · exact h1 _ _ hj (by assumption)
    · cases hj
theorem byS_succ {d : List (Int × Int)} {k : Nat} {e : Int × Int} (h : d[k]? = some e) : byS d (k + 1) = byS d k + e.2 := by
  unfold byS
  rw [List.take_add_one, h]; simp
end Go.Proofs.Ytiiaghmdajdbbaa

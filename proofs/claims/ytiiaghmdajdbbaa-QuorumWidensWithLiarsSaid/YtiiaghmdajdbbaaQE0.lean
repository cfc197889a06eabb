/- Rows of events, pieces and spans; what the rounds of the profile do to them (plain). -/
import Derived.Test.YtiiaghmdajdbbaaQD
namespace Go.Proofs.Ytiiaghmdajdbbaa
open Go.RowKit
set_option linter.unusedVariables false
theorem evs_each {l : List Sp} (h : okV l = true) : ∀ e ∈ evs l, (e.2 = 1 ∨ e.2 = -1) ∧ -1152921504606846976 ≤ e.1 ∧ e.1 ≤ 1152921504606846977 := by
  intro e he
  unfold evs at he
  obtain ⟨s, hs, he⟩ := List.mem_flatMap.1 he
  have := okV_each h s hs
  unfold vS at this
  rw [decide_eq_true_iff] at this
  simp only [List.mem_cons, List.not_mem_nil, or_false] at he
  rcases he with rfl | rfl
  · exact ⟨.inl rfl, by dsimp only; omega, by dsimp only; omega⟩
  · exact ⟨.inr rfl, by dsimp only; omega, by dsimp only; omega⟩
/-- A sorted list of a list's events. -/
structure Evs (l : List Sp) (d : List (Int × Int)) : Prop where
  perm : d.Perm (evs l)
  asc : d.Pairwise (fun a b => a.1 ≤ b.1)
section
variable {l : List Sp} {d : List (Int × Int)} {k : Nat} {t : Int} {e e' : Int × Int} {ps : List (Int × Int × Int)}
theorem Evs.len (h : Evs l d) : d.length = 2 * l.length := by rw [h.perm.length_eq, evs_len]
theorem Evs.each (h : Evs l d) (hv : okV l = true) : ∀ e ∈ d, (e.2 = 1 ∨ e.2 = -1) ∧ -1152921504606846976 ≤ e.1 ∧ e.1 ≤ 1152921504606846977 := fun e he => evs_each hv e (h.perm.mem_iff.1 he)
theorem Evs.le (h : Evs l d) {i j : Nat} (hi : d[i]? = some e) (hj : d[j]? = some e') (hij : i ≤ j) : e.1 ≤ e'.1 := by
  obtain ⟨h1, rfl⟩ := List.getElem?_eq_some_iff.1 hi
  obtain ⟨h2, rfl⟩ := List.getElem?_eq_some_iff.1 hj
  rcases Nat.lt_or_ge i j with h3 | h3
  · exact List.pairwise_iff_getElem.1 h.asc i j h1 h2 h3
  · obtain rfl : i = j := by omega
    exact Int.le_refl _
theorem Evs.cnt (h : Evs l d) (hv : okV l = true) (h1 : ∀ e, d[k]? = some e → t < e.1) (h2 : ∀ e (j : Nat), j < k → d[j]? = some e → e.1 ≤ t) : (cnt l t : Int) = byS d k := by
  rw [← sumTo_evs (okV_le hv), ← sumTo_perm h.perm]
  refine sumTo_sorted (fun j e hj hk => h2 e j hk hj) (fun j e hj hk => ?_)
  rcases Nat.lt_or_ge k d.length with h3 | h3
  · have := h1 _ (List.getElem?_eq_getElem h3)
    have := h.le (List.getElem?_eq_getElem h3) hj hk
    omega
  · rw [List.getElem?_eq_none (by omega)] at hj
    cases hj
theorem byS_bound (h : ∀ e ∈ d, e.2 = 1 ∨ e.2 = -1) (k : Nat) : -(k : Int) ≤ byS d k ∧ byS d k ≤ k := by
  induction k with
  | zero => exact ⟨Int.le_refl _, Int.le_refl _⟩
  | succ k ih =>
    rcases Nat.lt_or_ge k d.length with h1 | h1
    · have h2 := List.getElem?_eq_getElem h1
      rw [byS_succ h2]
      rcases h _ (List.mem_of_getElem? h2) with h | h <;> rw [h] <;> omega
    · have : byS d (k + 1) = byS d k := by unfold byS; rw [List.take_of_length_le (by omega), List.take_of_length_le (by omega)]
      rw [this]; omega
theorem byS_end (h : Evs l d) (hv : okV l = true) : byS d d.length = 0 := by
  have := h.cnt (t := 1152921504606846978) (k := d.length) hv (fun e he => by rw [List.getElem?_eq_none (Nat.le_refl _)] at he; cases he) (fun e j hj he => by have := h.each hv e (List.mem_of_getElem? he); omega)
  rw [← this]
  have h0 : Proofs.Ytiiaghmdajdbbaa.cnt l 1152921504606846978 = 0 := by
    unfold Proofs.Ytiiaghmdajdbbaa.cnt
    rw [List.countP_eq_zero]
    intro s hs
    have := okV_each hv s hs
    unfold vS at this
    rw [decide_eq_true_iff] at this
    unfold hol
    rw [decide_eq_true_iff]
    omega
  rw [h0]; rfl
/-- The pieces found ahead of event k. -/
def PI (l : List Sp) (d : List (Int × Int)) (k : Nat) (ps : List (Int × Int × Int)) : Prop := (∀ e, d[k]? = some e → PInv l e.1 ps) ∧ (k = d.length → PAll l ps)
theorem PI.start (h : Evs l d) (hv : okV l = true) : PI l d 0 [] := by
  refine ⟨fun e he => PInv.start fun t ht => ?_, fun h0 => ?_⟩
  · have := h.cnt (t := t) (k := 0) hv (fun e' he' => by rw [he] at he'; cases he'; exact ht) (fun e j hj => absurd hj (by omega))
    have h0 : byS d 0 = 0 := rfl
    omega
  · have := h.len
    have : l = [] := List.eq_nil_of_length_eq_zero (by omega)
    subst this
    exact ⟨List.Pairwise.nil, fun a ha => absurd ha (by simp), fun t ht => absurd ht (by simp [Proofs.Ytiiaghmdajdbbaa.cnt])⟩
theorem PI.cnt (h : Evs l d) (hv : okV l = true) (he : d[k]? = some e) (t1 : e.1 ≤ t) (t2 : ∀ e', d[k + 1]? = some e' → t < e'.1) : (Proofs.Ytiiaghmdajdbbaa.cnt l t : Int) = byS d (k + 1) :=
  h.cnt hv t2 fun e'' j hj hj' => by have := h.le hj' he (by omega); omega
theorem PI.last (h : Evs l d) (hv : okV l = true) (he : d[k]? = some e) (hk : k + 1 = d.length) (hi : PI l d k ps) : PI l d (k + 1) ps := by
  refine ⟨fun e' he' => (by rw [List.getElem?_eq_none (by omega)] at he'; cases he'), fun _ => (hi.1 e he).all fun t ht => ?_⟩
  have := PI.cnt h hv he ht (fun e' he' => by rw [List.getElem?_eq_none (by omega)] at he'; cases he')
  rw [hk, byS_end h hv] at this
  omega
theorem PI.zero (h : Evs l d) (hv : okV l = true) (he : d[k]? = some e) (he' : d[k + 1]? = some e') (hc : byS d (k + 1) = 0) (hi : PI l d k ps) : PI l d (k + 1) ps := by
  refine ⟨fun e'' h'' => ?_, fun hk => by rw [List.getElem?_eq_none (by omega)] at he'; cases he'⟩
  rw [he'] at h''
  obtain rfl := Option.some.inj h''
  refine (hi.1 e he).skip (h.le he he' (by omega)) fun t t1 t2 => ?_
  have := PI.cnt h hv he t1 (fun e'' h'' => by rw [he'] at h''; cases h''; exact t2)
  omega
theorem PI.same (h : Evs l d) (he : d[k]? = some e) (he' : d[k + 1]? = some e') (hc : e'.1 = e.1) (hi : PI l d k ps) : PI l d (k + 1) ps := by
  refine ⟨fun e'' h'' => ?_, fun hk => by rw [List.getElem?_eq_none (by omega)] at he'; cases he'⟩
  rw [he'] at h''
  obtain rfl := Option.some.inj h''
  rw [hc]
  exact hi.1 e he
theorem PI.push (h : Evs l d) (hv : okV l = true) (he : d[k]? = some e) (he' : d[k + 1]? = some e') (hne : e'.1 ≠ e.1) (hi : PI l d k ps) : PI l d (k + 1) (ps ++ [(e.1, e'.1 - 1, byS d (k + 1))]) := by
  refine ⟨fun e'' h'' => ?_, fun hk => by rw [List.getElem?_eq_none (by omega)] at he'; cases he'⟩
  rw [he'] at h''
  obtain rfl := Option.some.inj h''
  have := h.le he he' (by omega)
  exact (hi.1 e he).push (by omega) fun t t1 t2 => PI.cnt h hv he t1 (fun e'' h'' => by rw [he'] at h''; cases h''; exact t2)
theorem PI.join {ini : List (Int × Int × Int)} {q : Int × Int × Int} (h : Evs l d) (hv : okV l = true) (he : d[k]? = some e) (he' : d[k + 1]? = some e') (hne : e'.1 ≠ e.1) (hq : q.2.1 + 1 = e.1) (hc : q.2.2 = byS d (k + 1)) (hi : PI l d k (ini ++ [q])) : PI l d (k + 1) (ini ++ [(q.1, e'.1 - 1, q.2.2)]) := by
  refine ⟨fun e'' h'' => ?_, fun hk => by rw [List.getElem?_eq_none (by omega)] at he'; cases he'⟩
  rw [he'] at h''
  obtain rfl := Option.some.inj h''
  have := h.le he he' (by omega)
  exact (hi.1 e he).join hq hc (by omega) fun t t1 t2 => PI.cnt h hv he t1 (fun e'' h'' => by rw [he'] at h''; cases h''; exact t2)
end
/-- The cells of a list of pieces. -/
def pcV (l : List (Int × Int × Int)) : List Value := l.flatMap fun s => [.int .i64 s.1, .int .i64 s.2.1, .int .i64 s.2.2]
theorem pcV_cons (s : Int × Int × Int) (l) : pcV (s :: l) = .int .i64 s.1 :: .int .i64 s.2.1 :: .int .i64 s.2.2 :: pcV l := rfl
theorem pcV_append (a b : List (Int × Int × Int)) : pcV (a ++ b) = pcV a ++ pcV b := List.flatMap_append
theorem pcV_len (l : List (Int × Int × Int)) : (pcV l).length = l.length * 3 := by
  induction l with
  | nil => rfl
  | cons s l ih => rw [pcV_cons, List.length_cons, List.length_cons, List.length_cons, ih, List.length_cons]; omega
theorem pcV_get (l : List (Int × Int × Int)) : ∀ (j : Nat) (s : Int × Int × Int), l[j]? = some s → (pcV l)[j * 3]? = some (.int .i64 s.1) ∧ (pcV l)[j * 3 + 1]? = some (.int .i64 s.2.1) ∧ (pcV l)[j * 3 + 2]? = some (.int .i64 s.2.2) := by
  induction l with
  | nil => intro j s h; simp at h
  | cons a l ih =>
    intro j s h
    cases j with
    | zero => simp at h; subst h; exact ⟨rfl, rfl, rfl⟩
    | succ j =>
      rw [List.getElem?_cons_succ] at h
      have := ih j s h
      rw [pcV_cons, show (j + 1) * 3 = j * 3 + 1 + 1 + 1 by omega]
      simp only [List.getElem?_cons_succ]
      exact this
theorem pcV_set (ini : List (Int × Int × Int)) (q : Int × Int × Int) (x : Int) : (pcV (ini ++ [q])).set (ini.length * 3 + 1) (.int .i64 x) = pcV (ini ++ [(q.1, x, q.2.2)]) := by
  rw [pcV_append, pcV_append, List.set_append_right _ _ (by rw [pcV_len]; omega), pcV_len, show ini.length * 3 + 1 - ini.length * 3 = 1 by omega]
  rfl
theorem spV_set (ini : List Sp) (q : Sp) (x : Int) : (spV (ini ++ [q])).set (ini.length * 2 + 1) (.int .i64 x) = spV (ini ++ [(q.1, x)]) := by
  rw [spV_append, spV_append, List.set_append_right _ _ (by rw [spV_len]; omega), spV_len, show ini.length * 2 + 1 - ini.length * 2 = 1 by omega]
  rfl
def OwnP (w : World) (base : Nat) (v : Value) (l : List (Int × Int × Int)) : Prop := w.ownsRow base 89 3 v l.length (pcV l)
def SeesP (w : World) (B : Nat) (v : Value) (l : List (Int × Int × Int)) : Prop := Sees w B v 3 l.length (pcV l)
theorem SeesP.mk_ {w : World} {B : Nat} {v : Value} {l : List (Int × Int × Int)} (h : SeesP w B v l) : ∃ A c, v = .slice A l.length c ∧ l.length ≤ c ∧ c ≤ maxLen := Sees.mk_ h
theorem SeesP.at_ {w : World} {B : Nat} {l : List (Int × Int × Int)} {A : Option Addr} {n c : Nat} (h : SeesP w B (.slice A n c) l) (hn : 0 < l.length) : ∃ b o, A = some ⟨b, o, none⟩ ∧ b < B ∧ ∀ j s, l[j]? = some s → w.cell? ⟨b, o + j * 3, none⟩ = some (.int .i64 s.1) ∧ w.cell? ⟨b, o + j * 3 + 1, none⟩ = some (.int .i64 s.2.1) ∧ w.cell? ⟨b, o + j * 3 + 2, none⟩ = some (.int .i64 s.2.2) := by
  obtain ⟨A', c', e, -, -⟩ := h.mk_
  injection e with e1 e2 e3
  subst e1 e2 e3
  obtain ⟨b, o, e, hb, hc⟩ := Sees.at_ h hn
  refine ⟨b, o, e, hb, fun j s hs => ?_⟩
  obtain ⟨k0, k1, k2⟩ := pcV_get l j s hs
  exact ⟨hc _ _ k0, by rw [Nat.add_assoc]; exact hc _ _ k1, by rw [Nat.add_assoc]; exact hc _ _ k2⟩
theorem own_form {w : World} {base size n : Nat} {e : TypeId} {v : Value} {xs : List Value} (h : w.ownsRow base e size v n xs) (hn : 0 < n) :
    ∃ g cap, v = .slice (some ⟨g, 0, none⟩) n cap ∧ base ≤ g ∧ g < w.heap.size ∧ n ≤ cap ∧ cap ≤ 9223372036854775807 ∧ ∀ j u, xs[j]? = some u → w.cell? ⟨g, j, none⟩ = some u := by
  rcases h.2 with ⟨_, rfl⟩ | ⟨g, cap, cur, rfl, hb, hh, hc, hm, _⟩
  · omega
  · refine ⟨g, cap, rfl, hb, (Array.getElem?_eq_some_iff.1 hh).1, hc, by unfold maxLen at hm; omega, fun j u hu => ?_⟩
    have h1 : j < n * size := by
      have := (List.getElem?_eq_some_iff.1 hu).1
      rw [h.1] at this; exact this
    rw [h.cellAt j h1]; exact hu
theorem piece_info : (Try.prog.info? 89).map (fun i => (i.zero, i.size, i.bytes)) = some (some (.agg #[.int .i64 0, .int .i64 0, .int .i64 0]), 3, 24) := by kernel_rfl
theorem event_info : (Try.prog.info? 102).map (fun i => (i.zero, i.size, i.bytes)) = some (some (.agg #[.int .i64 0, .int .i64 0]), 2, 16) := by kernel_rfl
/-- The events of spans, sorted. -/
def EvP (l : List Sp) (w : World) (e : Ending) (w' : World) : Prop := ∃ v d, e = .returned v ∧ w'.ownsRow w.heap.size 102 2 v d.length (spV d) ∧ Evs l d ∧ Below w.heap.size w w'
def PiecesP (l : List Sp) (w : World) (e : Ending) (w' : World) : Prop := ∃ v ps, e = .returned v ∧ OwnP w' w.heap.size v ps ∧ PAll l ps ∧ ps.length ≤ 128 ∧ (∀ p ∈ ps, -1152921504606846976 ≤ p.1 ∧ p.2.1 ≤ 1152921504606846976 ∧ p.2.2 ≤ 128) ∧ Below w.heap.size w w'
theorem bgrow {w a b : World} {B g : Nat} (h : Below B w a) (hg : a.grownBy b (some g)) (hB : B ≤ g) (hs : B ≤ a.heap.size) : Below B w b :=
  h.trans ⟨hg.os, hg.tape, hg.output, hg.size, fun k hk => hg.block k (by omega) (fun e => by have := Option.some.inj e; omega)⟩
theorem bgrowO {w a b : World} {B : Nat} {r : Option Nat} (h : Below B w a) (hg : a.grownBy b r) (hB : ∀ j, r = some j → B ≤ j) (hs : B ≤ a.heap.size) : Below B w b :=
  h.trans ⟨hg.os, hg.tape, hg.output, hg.size, fun k hk => hg.block k (by omega) (fun e => by have := hB k e.symm; omega)⟩
end Go.Proofs.Ytiiaghmdajdbbaa

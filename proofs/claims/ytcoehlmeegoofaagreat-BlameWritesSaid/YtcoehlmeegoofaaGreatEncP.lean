/- What blame.Encode returns, plain; rows of several records in memory. Conditions: those of each theorem. -/
import Derived.Test.YtcoehlmeegoofaaGreatRWrite
namespace Go.Proofs.YtcoehlmeegoofaaGreat
open Go Go.RowKit
set_option linter.unusedVariables false
set_option linter.unusedSimpArgs false
def fencC (ls : List Lk) (f s : Int) : Int := if 8 < ls.length then 8 else if 0 ≤ f ∧ f ≤ 255 ∧ 0 ≤ s ∧ s ≤ 255 then 0 else 4
def fencB (ls : List Lk) (f s : Int) : Bs := if fencC ls f s = 0 then wrF (encF ls f.toNat s.toNat) else []
def FEncP (ls : List Lk) (f s : Int) (w : World) (e : Ending) (w' : World) : Prop := ∃ v, e = .returned (.tuple #[v, .int .i64 (fencC ls f s)]) ∧ OwnB w' w.heap.size v (fencB ls f s) ∧ Below w.heap.size w w'
theorem own_nil (w : World) (base : Nat) : OwnB w base (.slice none 0 0) [] := World.ownsRow_nil _ _ _ _
theorem fenc_bad {ls : List Lk} {f s c : Int} (h : fencC ls f s = c) (hc : c ≠ 0) {w w' : World} (hb : Below w.heap.size w w') : FEncP ls f s w (.returned (.tuple #[.slice none 0 0, .int .i64 c])) w' := by
  refine ⟨_, by rw [h], ?_, hb⟩
  rw [fencB, if_neg (by rw [h]; exact hc)]
  exact own_nil _ _
theorem fenc_good {ls : List Lk} {a b : UInt8} (h : fencC ls (a.toNat : Int) (b.toNat : Int) = 0) {w w' : World} {v : Value} (ho : OwnB w' w.heap.size v (wrF (encF ls a.toNat b.toNat))) (hb : Below w.heap.size w w') : FEncP ls (a.toNat : Int) (b.toNat : Int) w (.returned (.tuple #[v, .int .i64 0])) w' := by
  refine ⟨_, by rw [h], ?_, hb⟩
  rw [fencB, if_pos h]
  exact ho
theorem byte_of {f : Int} (h0 : 0 ≤ f) (h1 : f ≤ 255) : ∃ a : UInt8, f = (a.toNat : Int) := ⟨UInt8.ofNat f.toNat, by rw [UInt8.toNat_ofNat']; omega⟩
theorem lkF_take {ls : List Lk} {k : Nat} {t : Lk} (h : ls[k]? = some t) : (ls.take (k + 1)).flatMap lkF = (ls.take k).flatMap lkF ++ lkF t := by
  rw [List.take_add_one, List.flatMap_append, h]; simp
theorem recs_lit (W : World) (T : TypeId) (size n : Nat) (xs : List Value) (h : xs.length = n * size) (hn : n ≤ maxLen) : Sees (W.alloc (.cells xs.toArray T)) (W.heap.size + 1) (.slice (some ⟨W.heap.size, 0, none⟩) n n) size n xs :=
  ⟨h, _, n, rfl, Nat.le_refl _, hn, fun _ => ⟨W.heap.size, 0, rfl, by omega, fun j u hj => by have := (Box.new W T xs).cell j; rw [Nat.zero_add, this, hj]⟩⟩
theorem trip_elts {w : World} {v x y z : Value} {a b c : Bs} (h1 : EltS w v x (.byt a)) (h2 : EltS w v y (.byt b)) (h3 : EltS w v z (.byt c)) : ∀ (k : Nat) (s : Spec), (fdS (lkF (a, b, c)))[k]? = some s → ∃ u, [Value.int .i64 1, x, .int .i64 2, y, .int .i64 3, z][k]? = some u ∧ EltS w v u s := by
  intro k s hk
  match k, hk with
  | 0, hk => cases hk; exact ⟨_, rfl, rfl, rfl⟩
  | 1, hk => cases hk; exact ⟨_, rfl, h1⟩
  | 2, hk => cases hk; exact ⟨_, rfl, rfl, rfl⟩
  | 3, hk => cases hk; exact ⟨_, rfl, h2⟩
  | 4, hk => cases hk; exact ⟨_, rfl, rfl, rfl⟩
  | 5, hk => cases hk; exact ⟨_, rfl, h3⟩
  | k + 6, hk => simp [fdS, lkF] at hk
theorem last_elts {w : World} {v x : Value} {b : Bs} (h1 : EltS w v x (.byt b)) : ∀ (k : Nat) (s : Spec), (fdS [(4, b)])[k]? = some s → ∃ u, [Value.int .i64 4, x][k]? = some u ∧ EltS w v u s := by
  intro k s hk
  match k, hk with
  | 0, hk => cases hk; exact ⟨_, rfl, rfl, rfl⟩
  | 1, hk => cases hk; exact ⟨_, rfl, h1⟩
  | k + 2, hk => simp [fdS] at hk
/-- A link's cell is older than a row of the call's own. -/
theorem old_elt {w w' : World} {B base : Nat} {v u : Value} {l : Bs} (h : SeesB w B u l) (hB : B ≤ base) (hb : Below base w w') (hs : base ≤ w'.heap.size) (hv : ∀ j, v.ownBlock = some j → base ≤ j) : EltS w' v u (.byt l) :=
  ⟨(h.below (hb.mono hB)).more (Nat.le_trans hB hs), fun hl k hk e => by have := hv k e; have := h.blk hl k hk; omega⟩
theorem enc_sizes {ls : List Lk} (h8 : ls.length ≤ 8) (hl : ∀ t ∈ ls, t.1.length ≤ 2000 ∧ t.2.1.length ≤ 2000 ∧ t.2.2.length ≤ 2000) (a b : UInt8) : (wrF (encF ls a.toNat b.toNat)).length ≤ 65535 := by
  have h : ∀ ls : List Lk, (∀ t ∈ ls, t.1.length ≤ 2000 ∧ t.2.1.length ≤ 2000 ∧ t.2.2.length ≤ 2000) → (wrF (ls.flatMap lkF)).length ≤ 6012 * ls.length := by
    intro ls
    induction ls with
    | nil => intro _; exact Nat.le_refl _
    | cons t ls ih =>
      intro hl
      have h1 := ih fun x hx => hl x (List.mem_cons_of_mem _ hx)
      obtain ⟨a1, a2, a3⟩ := hl t (List.mem_cons_self ..)
      rw [List.flatMap_cons, wrF_append, List.length_append, List.length_cons]
      have : (wrF (lkF t)).length = 12 + t.1.length + t.2.1.length + t.2.2.length := by
        simp only [lkF, wrF_cons, wrF_nil, List.length_append, fdB_len, List.length_nil]
        omega
      omega
  have h1 := h ls hl
  rw [encF, wrF_append, List.length_append, wrF_one, fdB_len]
  show _ + (4 + 2) ≤ _
  omega
theorem encF_bytes (ls : List Lk) (a b : UInt8) : encF ls a.toNat b.toNat = ls.flatMap lkF ++ [(4, [a, b])] := by
  rw [encF, UInt8.ofNat_toNat, UInt8.ofNat_toNat]
theorem wrF_mem {l : List Fd} {x : Fd} (h : x ∈ l) : x.2.length + 4 ≤ (wrF l).length := by
  induction l with
  | nil => cases h
  | cons y l ih =>
    rw [wrF_cons, List.length_append, fdB_len]
    rcases List.mem_cons.1 h with rfl | h
    · omega
    · have := ih h; omega
theorem encF_total (ls : List Lk) (f s f' s' : Nat) : (wrF (encF ls f s)).length = (wrF (encF ls f' s')).length := by
  simp only [encF, wrF_append, List.length_append, wrF_one, fdB_len, List.length_cons, List.length_nil]
theorem enc_okF {ls : List Lk} {f s : Nat} (h : (wrF (encF ls f s)).length ≤ 65535) : ∀ x ∈ encF ls f s, okF x := by
  refine fenc_ok fun t ht => ?_
  have hm : ∀ x ∈ lkF t, x.2.length < 65536 := fun x hx => by
    have hx2 : x ∈ encF ls f s := List.mem_append_left _ (List.mem_flatMap.2 ⟨t, ht, hx⟩)
    have := wrF_mem hx2
    omega
  exact ⟨hm (1, t.1) (by simp [lkF]), hm (2, t.2.1) (by simp [lkF]), hm (3, t.2.2) (by simp [lkF])⟩
theorem wrF_size (l : List Fd) : (wrF l).length = 4 * l.length + ((l.map Prod.snd).flatten).length := by
  induction l with
  | nil => rfl
  | cons x l ih => rw [wrF_cons, List.length_append, fdB_len, ih, List.map_cons, List.flatten_cons, List.length_append, List.length_cons]; omega
/-- The data of what is taken out are those of the fields. -/
theorem enc_data {l : List Fd} {m : Nat} {a b : UInt8} {x : Fd} (hm : l.length = 3 * m + 1) (hx : l[3 * m]? = some x) (hab : x.2 = [a, b]) : (encF (exK l m) a.toNat b.toNat).map Prod.snd = l.map Prod.snd := by
  apply List.ext_getElem?
  intro j
  have hel := encF_len (exK l m) a.toNat b.toNat
  rw [exK_len] at hel
  have hsome : ∀ j, j < l.length → l[j]? = some (l.getD j (0, [])) := fun j hj => by
    rw [List.getD_eq_getElem?_getD, List.getElem?_eq_getElem hj]; rfl
  rw [List.getElem?_map, List.getElem?_map]
  rcases Nat.lt_trichotomy j (3 * m) with hj | hj | hj
  · obtain ⟨k, hk⟩ : ∃ k, k = j / 3 := ⟨_, rfl⟩
    have hkm : k < m := by omega
    obtain ⟨e1, e2, e3⟩ := encF_get (f := a.toNat) (s := b.toNat) (exK_get l hkm)
    have hj3 : j = 3 * k ∨ j = 3 * k + 1 ∨ j = 3 * k + 2 := by omega
    rcases hj3 with rfl | rfl | rfl
    · rw [e1, hsome _ (by omega)]; rfl
    · rw [e2, hsome _ (by omega)]; rfl
    · rw [e3, hsome _ (by omega)]; rfl
  · subst hj
    have := encF_last (exK l m) a.toNat b.toNat
    rw [exK_len] at this
    rw [hx, this, UInt8.ofNat_toNat, UInt8.ofNat_toNat]
    show some [a, b] = some x.2
    rw [hab]
  · rw [List.getElem?_eq_none (by omega), List.getElem?_eq_none (by omega)]
theorem enc_back_len {l : List Fd} {m : Nat} {a b : UInt8} {x : Fd} (hm : l.length = 3 * m + 1) (hx : l[3 * m]? = some x) (hab : x.2 = [a, b]) (f s : Nat) : (wrF (encF (exK l m) f s)).length = (wrF l).length := by
  rw [encF_total _ f s a.toNat b.toNat, wrF_size, wrF_size, enc_data hm hx hab, encF_len, exK_len, hm]
end Go.Proofs.YtcoehlmeegoofaaGreat

/- Rows of records in memory: their cells are plain values or slices of bytes; what they show, and an append of records. Conditions: those of each theorem. -/
import Derived.Test.YtkefbjpdpcmpnaaGreatTower8
namespace Go.Proofs.YtkefbjpdpcmpnaaGreat
open Go.RowKit
set_option linter.unusedVariables false
/-- What a cell of a record holds: a plain value, or a slice that shows these bytes. -/
inductive Spec where
  | val (x : Value)
  | byt (l : Bs)
def FitS (w : World) (B : Nat) (u : Value) : Spec → Prop
  | .val x => u = x ∧ x.oneCell' = true
  | .byt l => SeesB w B u l
/-- A slice of n records of 'size' cells each, below block B. -/
def SeesR (w : World) (B : Nat) (v : Value) (size n : Nat) (ss : List Spec) : Prop :=
  ss.length = n * size ∧ ∃ vs : List Value, Sees w B v size n vs ∧ ∀ (k : Nat) (s : Spec), ss[k]? = some s → ∃ u, vs[k]? = some u ∧ FitS w B u s
def EltS (w : World) (v u : Value) : Spec → Prop
  | .val x => u = x ∧ x.oneCell' = true
  | .byt l => Elt w v u l
/-- The value is a row of the call's own; its elements are these records. -/
def OwnR (w : World) (base : Nat) (T : TypeId) (v : Value) (size n : Nat) (ss : List Spec) : Prop :=
  ss.length = n * size ∧ ∃ vs : List Value, w.ownsRow base T size v n vs ∧ ∀ (k : Nat) (s : Spec), ss[k]? = some s → ∃ u, vs[k]? = some u ∧ EltS w v u s
section
variable {w w' : World} {B B' base size n : Nat} {T : TypeId} {u v : Value} {s : Spec} {ss : List Spec}
theorem FitS.one (h : FitS w B u s) : u.oneCell' = true := by
  cases s with
  | val x => obtain ⟨rfl, h⟩ := h; exact h
  | byt l => obtain ⟨A, c, rfl, -, -⟩ := SeesB.mk_ h; rfl
theorem FitS.below (h : FitS w B u s) (hb : Below B w w') : FitS w' B u s := by
  cases s with
  | val x => exact h
  | byt l => exact SeesB.below h hb
theorem FitS.more (h : FitS w B u s) (hB : B ≤ B') : FitS w B' u s := by
  cases s with
  | val x => exact h
  | byt l => exact SeesB.more h hB
theorem EltS.fit (h : EltS w v u s) : FitS w w.heap.size u s := by
  cases s with
  | val x => exact h
  | byt l => exact h.1
theorem EltS.below (h : EltS w v u s) (hb : Below w.heap.size w w') : EltS w' v u s := by
  cases s with
  | val x => exact h
  | byt l => exact Elt.below h hb
theorem EltS.of_old (h : FitS w B u s) (hB : B ≤ w.heap.size) (hv : ∀ k, v.ownBlock = some k → B ≤ k) : EltS w v u s := by
  cases s with
  | val x => exact h
  | byt l => exact Elt.of_old h hB hv
theorem SeesR.len (h : SeesR w B v size n ss) : ss.length = n * size := h.1
theorem SeesR.mk_ (h : SeesR w B v size n ss) : ∃ A c, v = .slice A n c ∧ n ≤ c ∧ c ≤ maxLen := by
  obtain ⟨_, vs, h, _⟩ := h
  exact h.mk_
theorem SeesR.at_ {A : Option Addr} {c : Nat} (h : SeesR w B (.slice A n c) size n ss) (hn : 0 < n) :
    ∃ b o, A = some ⟨b, o, none⟩ ∧ b < B ∧ ∀ (k : Nat) (s : Spec), ss[k]? = some s → ∃ u, w.cell? ⟨b, o + k, none⟩ = some u ∧ FitS w B u s := by
  obtain ⟨_, vs, hs, hv⟩ := h
  obtain ⟨b, o, e, hb, hc⟩ := hs.at_ hn
  refine ⟨b, o, e, hb, fun k s hk => ?_⟩
  obtain ⟨u, hu1, hu2⟩ := hv k s hk
  exact ⟨u, hc k u hu1, hu2⟩
theorem SeesR.below (h : SeesR w B v size n ss) (hb : Below B w w') : SeesR w' B v size n ss := by
  obtain ⟨h0, vs, hs, hv⟩ := h
  refine ⟨h0, vs, hs.below hb, fun k s hk => ?_⟩
  obtain ⟨u, hu1, hu2⟩ := hv k s hk
  exact ⟨u, hu1, hu2.below hb⟩
theorem SeesR.more (h : SeesR w B v size n ss) (hB : B ≤ B') : SeesR w B' v size n ss := by
  obtain ⟨h0, vs, hs, hv⟩ := h
  refine ⟨h0, vs, hs.more hB, fun k s hk => ?_⟩
  obtain ⟨u, hu1, hu2⟩ := hv k s hk
  exact ⟨u, hu1, hu2.more hB⟩
theorem SeesR.nil (w : World) (B size : Nat) : SeesR w B (.slice none 0 0) size 0 [] := ⟨by simp, [], Sees.nil w B size, fun k s hk => by simp at hk⟩
theorem OwnR.nil (w : World) (base : Nat) (T : TypeId) (size : Nat) : OwnR w base T (.slice none 0 0) size 0 [] := ⟨by simp, [], World.ownsRow_nil w base T size, fun k s hk => by simp at hk⟩
theorem OwnR.sees (h : OwnR w base T v size n ss) : SeesR w w.heap.size v size n ss := by
  obtain ⟨h0, vs, h1, h2⟩ := h
  refine ⟨h0, vs, Sees.of_own h1, fun k s hk => ?_⟩
  obtain ⟨u, g1, g2⟩ := h2 k s hk
  exact ⟨u, g1, g2.fit⟩
theorem OwnR.lt (h : OwnR w base T v size n ss) : ∀ k, v.ownBlock = some k → base ≤ k ∧ k < w.heap.size := by
  obtain ⟨_, vs, h1, _⟩ := h
  exact h1.lt
theorem OwnR.below (h : OwnR w base T v size n ss) (hb : Below w.heap.size w w') : OwnR w' base T v size n ss := by
  obtain ⟨h0, vs, h1, h2⟩ := h
  refine ⟨h0, vs, own_below h1 hb, fun k s hk => ?_⟩
  obtain ⟨u, g1, g2⟩ := h2 k s hk
  exact ⟨u, g1, g2.below hb⟩
theorem OwnR.mono {base' : Nat} (h : OwnR w base T v size n ss) (hb : base' ≤ base) : OwnR w base' T v size n ss := by
  obtain ⟨h0, vs, h1, h2⟩ := h
  refine ⟨h0, vs, ⟨h1.1, ?_⟩, h2⟩
  rcases h1.2 with h | ⟨g, cap, cur, e1, e2, e3⟩
  · exact .inl h
  · exact .inr ⟨g, cap, cur, e1, by omega, e3⟩
theorem OwnR.from (h : OwnR w base T v size n ss) : From base v := by
  obtain ⟨_, vs, h1, _⟩ := h
  intro a n' c e
  rcases h1.2 with ⟨rfl, _⟩ | ⟨g, cap, cur, rfl, hb, _⟩
  · cases e
  · injection e with e1; injection e1 with e1; subst e1; exact hb
end
theorem below_ownR {w w' : World} {base size n : Nat} {T : TypeId} {v : Value} {ss : List Spec} (h : OwnR w base T v size n ss) (hg : w.grownBy w' v.ownBlock) (hb : base ≤ w.heap.size) : Below base w w' := by
  refine ⟨hg.os, hg.tape, hg.output, hg.size, fun k hk => hg.block k (by omega) (fun e => ?_)⟩
  have := (h.lt k e.symm).1
  omega
/-- append of records, the source whatever row is seen that does not lie where the target lies. -/
theorem wp_appR {o : Oper} {a : Act} {w : World} {K : Act → World → Prop} {Q : Exit → Act → World → Prop} (s x : Operand) (T E : TypeId) (hT : Tryz.prog.underlying T = some (.slice E))
    (ho : o.op = .call { callee := .builtin .append, args := #[s, x], argTypes := #[T, T] }) (i : TypeInfo) (z : Value) (size bytes : Nat) (hi : Tryz.prog.info? E = some i) (hz : i.zero = some z)
    (hsz : i.size = size) (hby : i.bytes = bytes) (hzs : z.cells.size = size) (h0 : 0 < size) (hby2 : bytes ≤ 1024)
    (base : Nat) (v : Value) (n : Nat) (ss : List Spec) (hs : a.eval s = v) (hown : OwnR w base E v size n ss) (B : Nat) (u : Value) (m : Nat) (vs : List Value) (ts : List Spec) (hx : a.eval x = u) (hr : Sees w B u size m vs)
    (htl : ts.length = m * size) (hel : ∀ (k : Nat) (t : Spec), ts[k]? = some t → ∃ y, vs[k]? = some y ∧ EltS w v y t)
    (hlen : n + m ≤ 1048576) (hbase : base ≤ w.heap.size)
    (h : ∀ v' w', OwnR w' base E v' size (n + m) (ss ++ ts) → Below base w w' → K (a.put o.dst v') w') : o.wp Tryz.prog a w K Q := by
  have hown' := hown
  obtain ⟨hl0, xs, h1, h2⟩ := hown
  have h1c : ∀ y ∈ vs, y.oneCell' = true := by
    intro y hy
    obtain ⟨k, hk⟩ := List.mem_iff_getElem?.1 hy
    have hkl : k < ts.length := by
      have := (List.getElem?_eq_some_iff.1 hk).1
      rw [hr.1] at this; omega
    obtain ⟨y', e1, e2⟩ := hel k _ (List.getElem?_eq_getElem hkl)
    rw [hk] at e1
    cases e1
    exact e2.fit.one
  refine wp_append_sees s x T ho base E i z size bytes hT hi hz hsz hby hzs h0 v n xs hs h1 B u m vs hx hr h1c (by unfold maxLen; omega) (Nat.le_trans (Nat.mul_le_mul hlen hby2) (by omega)) hbase ?_
  intro v' w' g1 g2 g3
  refine h v' w' ⟨by rw [List.length_append, hl0, htl, Nat.add_mul], xs ++ vs, g1, fun k t hk => ?_⟩ (below_ownR hown' g2 hbase)
  have hl1 : xs.length = ss.length := by rw [h1.1, hl0]
  have hst : ∀ {y : Value} {t : Spec}, EltS w v y t → EltS w' v' y t := fun {y t} hy => by
    cases t with
    | val x => exact hy
    | byt l => exact ⟨hy.grown g2, fun hm k hk => by
        rcases g3 with e | e
        · rw [e]; exact hy.2 hm k hk
        · rw [e]; intro e2; cases e2; exact absurd (hy.1.blk hm _ hk) (by omega)⟩
  by_cases hkl : k < ss.length
  · rw [List.getElem?_append_left hkl] at hk
    obtain ⟨y, e1, e2⟩ := h2 k t hk
    exact ⟨y, by rw [List.getElem?_append_left (by omega)]; exact e1, hst e2⟩
  · rw [List.getElem?_append_right (by omega)] at hk
    obtain ⟨y, e1, e2⟩ := hel (k - ss.length) t hk
    exact ⟨y, by rw [List.getElem?_append_right (by omega), hl1]; exact e1, hst e2⟩
theorem wpList_appR {ops : Array Oper} {rest : List Oper} {o : Oper} {a : Act} {w : World} {Q : Exit → Act → World → Prop} (hgd : Region.wanted o (yielded ops a.tmps) = true) (s x : Operand) (T E : TypeId) (hT : Tryz.prog.underlying T = some (.slice E))
    (ho : o.op = .call { callee := .builtin .append, args := #[s, x], argTypes := #[T, T] }) (i : TypeInfo) (z : Value) (size bytes : Nat) (hi : Tryz.prog.info? E = some i) (hz : i.zero = some z)
    (hsz : i.size = size) (hby : i.bytes = bytes) (hzs : z.cells.size = size) (h0 : 0 < size) (hby2 : bytes ≤ 1024)
    (base : Nat) (v : Value) (n : Nat) (ss : List Spec) (hs : a.eval s = v) (hown : OwnR w base E v size n ss) (B : Nat) (u : Value) (m : Nat) (vs : List Value) (ts : List Spec) (hx : a.eval x = u) (hr : Sees w B u size m vs)
    (htl : ts.length = m * size) (hel : ∀ (k : Nat) (t : Spec), ts[k]? = some t → ∃ y, vs[k]? = some y ∧ EltS w v y t)
    (hlen : n + m ≤ 1048576) (hbase : base ≤ w.heap.size)
    (h : ∀ v' w', OwnR w' base E v' size (n + m) (ss ++ ts) → Below base w w' → wpList Tryz.prog ops Q rest (a.put o.dst v') w') : wpList Tryz.prog ops Q (o :: rest) a w :=
  BigFrame.wpList_want hgd fun _ hK => wp_appR s x T E hT ho i z size bytes hi hz hsz hby hzs h0 hby2 base v n ss hs hown B u m vs ts hx hr htl hel hlen hbase fun v' w' h2 h3 => hK _ _ (h v' w' h2 h3)
/-- The same in a region that draws its order. -/
theorem step_appR {ops : Array Oper} {o : Oper} {a : Act} {w : World} {K : Act → World → Prop} {Q : Exit → Act → World → Prop} {X : Prop} (hgd : o.guard = none) (s x : Operand) (T E : TypeId) (hT : Tryz.prog.underlying T = some (.slice E))
    (ho : o.op = .call { callee := .builtin .append, args := #[s, x], argTypes := #[T, T] }) (i : TypeInfo) (z : Value) (size bytes : Nat) (hi : Tryz.prog.info? E = some i) (hz : i.zero = some z)
    (hsz : i.size = size) (hby : i.bytes = bytes) (hzs : z.cells.size = size) (h0 : 0 < size) (hby2 : bytes ≤ 1024)
    (base : Nat) (v : Value) (n : Nat) (ss : List Spec) (hs : a.eval s = v) (hown : OwnR w base E v size n ss) (B : Nat) (u : Value) (m : Nat) (vs : List Value) (ts : List Spec) (hx : a.eval x = u) (hr : Sees w B u size m vs)
    (htl : ts.length = m * size) (hel : ∀ (k : Nat) (t : Spec), ts[k]? = some t → ∃ y, vs[k]? = some y ∧ EltS w v y t)
    (hlen : n + m ≤ 1048576) (hbase : base ≤ w.heap.size)
    (h : ∀ v' w', OwnR w' base E v' size (n + m) (ss ++ ts) → Below base w w' → K (a.put o.dst v') w') : if Region.wanted o (yielded ops a.tmps) = true then Oper.wp Tryz.prog o a w K Q else X := by
  have hw : Region.wanted o (yielded ops a.tmps) = true := by simp [Region.wanted, hgd]
  rw [if_pos hw]
  exact wp_appR s x T E hT ho i z size bytes hi hz hsz hby hzs h0 hby2 base v n ss hs hown B u m vs ts hx hr htl hel hlen hbase h
/-- A literal of one record. -/
theorem rec_lit (W : World) (T : TypeId) (xs : List Value) : Sees (W.alloc (.cells xs.toArray T)) (W.heap.size + 1) (.slice (some ⟨W.heap.size, 0, none⟩) 1 1) xs.length 1 xs :=
  ⟨by omega, _, 1, rfl, Nat.le_refl _, by simp [maxLen], fun _ => ⟨W.heap.size, 0, rfl, by omega, fun j u hj => by have := (Box.new W T xs).cell j; rw [Nat.zero_add, this, hj]⟩⟩
theorem two_elt {w : World} {v x y : Value} {l : Bs} (h1 : x.oneCell' = true) (h2 : EltS w v y (.byt l)) : ∀ (k : Nat) (t : Spec), [Spec.val x, Spec.byt l][k]? = some t → ∃ z, [x, y][k]? = some z ∧ EltS w v z t := by
  intro k t hk
  rcases k with _ | _ | k
  · simp at hk; subst hk; exact ⟨x, rfl, rfl, h1⟩
  · simp at hk; subst hk; exact ⟨y, rfl, h2⟩
  · simp at hk
theorem EltS.of_from {w : World} {n : Nat} {u v : Value} {l : Bs} (h : SeesB w w.heap.size u l) (hf : From n u) (hv : ∀ k, v.ownBlock = some k → k < n) : EltS w v u (.byt l) := Elt.of_from h hf hv
end Go.Proofs.YtkefbjpdpcmpnaaGreat

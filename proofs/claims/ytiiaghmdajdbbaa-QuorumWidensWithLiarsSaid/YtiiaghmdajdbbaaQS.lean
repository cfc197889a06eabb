/- Two rows of numbers that grow in turns. No conditions. -/
import Derived.Test.YtiiaghmdajdbbaaQJ
namespace Go.Proofs.Ytiiaghmdajdbbaa
open Go.RowKit
set_option linter.unusedVariables false
theorem sepB {a b : Option Nat} (h : ∀ j, b = some j → a ≠ some j) : a = none ∨ a ≠ b := by
  cases a with
  | none => exact .inl rfl
  | some x => exact .inr (fun e => h x e.symm rfl)
/-- Two rows of the call's own, and new blocks of one number each. -/
structure Two (w0 W : World) (v : Value) (xs : List Int) (u : Value) (ys : List Int) (ls : List (Nat × TypeId × List Value)) : Prop where
  r1 : W.ownsRow w0.heap.size 3 1 v xs.length (viI xs)
  r2 : W.ownsRow w0.heap.size 3 1 u ys.length (viI ys)
  sep : ∀ j, v.ownBlock = some j → u.ownBlock ≠ some j
  lit : ∀ p ∈ ls, Box W p.1 p.2.1 p.2.2 ∧ v.ownBlock ≠ some p.1 ∧ u.ownBlock ≠ some p.1
  below : Below w0.heap.size w0 W
section
variable {w0 W : World} {v u : Value} {xs ys : List Int} {ls : List (Nat × TypeId × List Value)}
theorem Two.start {W : World} (hb : Below w0.heap.size w0 W) : Two w0 W (.slice none 0 0) [] (.slice none 0 0) [] [] :=
  ⟨World.ownsRow_nil _ _ _ _, World.ownsRow_nil _ _ _ _, fun j h => (by cases h), fun p hp => (by cases hp), hb⟩
theorem Two.swap (h : Two w0 W v xs u ys ls) : Two w0 W u ys v xs ls := ⟨h.r2, h.r1, fun j hj hi => h.sep j hi hj, fun p hp => ⟨(h.lit p hp).1, (h.lit p hp).2.2, (h.lit p hp).2.1⟩, h.below⟩
theorem Two.mv {W' : World} (h : Two w0 W v xs u ys ls) (hb : Below W.heap.size W W') : Two w0 W' v xs u ys ls :=
  ⟨own_below h.r1 hb, own_below h.r2 hb, h.sep, fun p hp => ⟨(h.lit p hp).1.below hb, (h.lit p hp).2⟩, bgo h.below hb⟩
theorem Two.drew (h : Two w0 W v xs u ys ls) : Two w0 W.drew v xs u ys ls := h.mv (bdrew _)
theorem Two.other (h : Two w0 W v xs u ys ls) (o : Obj) : Two w0 (W.alloc o) v xs u ys ls := h.mv (balloc _ _)
theorem Two.alloc (h : Two w0 W v xs u ys ls) (T : TypeId) (cs : List Value) : Two w0 (W.alloc (.cells cs.toArray T)) v xs u ys ((W.heap.size, T, cs) :: ls) := by
  have hm := h.mv (balloc W (.cells cs.toArray T))
  refine ⟨hm.r1, hm.r2, hm.sep, fun p hp => ?_, hm.below⟩
  rcases List.mem_cons.1 hp with rfl | hp
  · exact ⟨Box.new W T cs, fun e => by have := (h.r1.lt _ e).2; simp at this, fun e => by have := (h.r2.lt _ e).2; simp at this⟩
  · exact hm.lit p hp
theorem Two.span {g : Nat} {T : TypeId} {a b : Value} (h : Two w0 W v xs u ys ls) (hm : (g, T, [a, b]) ∈ ls) : W.cell? ⟨g, 0, none⟩ = some a ∧ W.cell? ⟨g, 1, none⟩ = some b := boxT2 (h.lit _ hm).1
theorem Two.clear (h : Two w0 W v xs u ys ls) : Two w0 W v xs u ys [] := ⟨h.r1, h.r2, h.sep, fun p hp => (by cases hp), h.below⟩
theorem Two.shape1 (h : Two w0 W v xs u ys ls) : ∃ A n c, v = .slice A n c := by
  obtain ⟨A, c, e, -, -⟩ := (Sees.of_own h.r1).mk_
  exact ⟨A, _, c, e⟩
theorem Two.app (h : Two w0 W v xs u ys ls) {x : Int} {v' : Value} {w' : World} (g1 : w'.ownsRow w0.heap.size 3 1 v' (xs.length + 1) (viI xs ++ [.int .i64 x])) (g2 : W.grownBy w' v.ownBlock) (g3 : v'.ownBlock = v.ownBlock ∨ v'.ownBlock = some W.heap.size) : Two w0 w' v' (xs ++ [x]) u ys ls := by
  refine ⟨by rw [viI_append, List.length_append]; exact g1, h.r2.kept g2 (sepB h.sep), fun j hj hi => ?_, fun p hp => ?_, bgrowO h.below g2 (fun j hj => (h.r1.lt j hj).1) h.below.size⟩
  · rcases g3 with e | e
    · exact h.sep j (e ▸ hj) hi
    · rw [hj] at e
      have := Option.some.inj e
      have := (h.r2.lt j hi).2
      omega
  · obtain ⟨b1, b2, b3⟩ := h.lit p hp
    refine ⟨(g2.block p.1 b1.lt (fun e => b2 e.symm)).trans b1, fun e => ?_, b3⟩
    rcases g3 with e' | e'
    · exact b2 (e' ▸ e)
    · rw [e] at e'
      have := Option.some.inj e'
      have := b1.lt
      omega
end
theorem Sees.lit1 {W : World} {G : Nat} {x : Int} (h : Box W G 3 [.int .i64 x]) : Sees W W.heap.size (.slice (some ⟨G, 0, none⟩) 1 1) 1 1 [.int .i64 x] :=
  ⟨rfl, _, 1, rfl, Nat.le_refl _, by simp [maxLen], fun _ => ⟨G, 0, rfl, h.lt, fun j u hj => by have := h.cell j; rw [Nat.zero_add, this, hj]⟩⟩
/-- Two rows, and among the new blocks this one. -/
def Has (w0 W : World) (v : Value) (xs : List Int) (u : Value) (ys : List Int) (G : Nat) (T : TypeId) (cs : List Value) : Prop := ∃ ls, Two w0 W v xs u ys ls ∧ (G, T, cs) ∈ ls
def Any2 (w0 W : World) (v : Value) (xs : List Int) (u : Value) (ys : List Int) : Prop := ∃ ls, Two w0 W v xs u ys ls
section
variable {w0 W W' : World} {v v' u u' : Value} {xs xs' ys ys' : List Int} {G : Nat} {T : TypeId} {cs : List Value}
theorem Has.drew (h : Has w0 W v xs u ys G T cs) : Has w0 W.drew v xs u ys G T cs := h.imp fun _ ⟨a, b⟩ => ⟨a.drew, b⟩
theorem Has.old (h : Has w0 W v xs u ys G T cs) (T' : TypeId) (cs' : List Value) : Has w0 (W.alloc (.cells cs'.toArray T')) v xs u ys G T cs := by
  obtain ⟨ls, a, b⟩ := h
  exact ⟨_, a.alloc T' cs', List.mem_cons_of_mem _ b⟩
theorem Has.new (h : Any2 w0 W v xs u ys) (hG : W.heap.size = G) : Has w0 (W.alloc (.cells cs.toArray T)) v xs u ys G T cs := by
  obtain ⟨ls, a⟩ := h
  subst hG
  exact ⟨_, a.alloc T cs, List.mem_cons_self ..⟩
theorem Has.step (h : Has w0 W v xs u ys G T cs) (t : ∀ ls, Two w0 W v xs u ys ls → Two w0 W' v' xs' u' ys' ls) : Has w0 W' v' xs' u' ys' G T cs := h.imp fun _ ⟨a, b⟩ => ⟨t _ a, b⟩
theorem Has.any (h : Has w0 W v xs u ys G T cs) : Any2 w0 W v xs u ys := h.imp fun _ h => h.1
theorem Any2.drew (h : Any2 w0 W v xs u ys) : Any2 w0 W.drew v xs u ys := h.imp fun _ a => a.drew
theorem Any2.alloc (h : Any2 w0 W v xs u ys) (T : TypeId) (cs : List Value) : Any2 w0 (W.alloc (.cells cs.toArray T)) v xs u ys := by
  obtain ⟨ls, a⟩ := h
  exact ⟨_, a.alloc T cs⟩
theorem Any2.step (h : Any2 w0 W v xs u ys) (t : ∀ ls, Two w0 W v xs u ys ls → Two w0 W' v' xs' u' ys' ls) : Any2 w0 W' v' xs' u' ys' := h.imp fun _ a => t _ a
theorem Any2.shape1 (h : Any2 w0 W v xs u ys) : ∃ A n c, v = .slice A n c := by
  obtain ⟨ls, a⟩ := h
  exact a.shape1
theorem Any2.shape2 (h : Any2 w0 W v xs u ys) : ∃ A n c, u = .slice A n c := by
  obtain ⟨ls, a⟩ := h
  exact a.swap.shape1
theorem Any2.two (h : Any2 w0 W v xs u ys) : Two w0 W v xs u ys [] := by
  obtain ⟨ls, a⟩ := h
  exact a.clear
theorem Any2.below (h : Any2 w0 W v xs u ys) : Below w0.heap.size w0 W := by
  obtain ⟨ls, a⟩ := h
  exact a.below
theorem Has.span {a b : Value} (h : Has w0 W v xs u ys G 28 [a, b]) : W.cell? ⟨G, 0, none⟩ = some a ∧ W.cell? ⟨G, 1, none⟩ = some b := by
  obtain ⟨ls, h, hm⟩ := h
  exact h.span hm
end
theorem step_two1 {ops : Array Oper} {o : Oper} {a : Act} {w : World} {K : Act → World → Prop} {Q : Exit → Act → World → Prop} {X : Prop} {w0 : World} {v u : Value} {xs ys : List Int} {G : Nat} {x : Int} (hgd : o.guard = none) (s y : Operand)
    (ho : o.op = .call { callee := .builtin .append, args := #[s, y], argTypes := #[22, 22] }) (hs : a.eval s = v) (hx : a.eval y = .slice (some ⟨G, 0, none⟩) 1 1)
    (ht : Has w0 w v xs u ys G 3 [.int .i64 x]) (hlen : xs.length ≤ 1000)
    (h : ∀ v' w', (∀ ls, Two w0 w v xs u ys ls → Two w0 w' v' (xs ++ [x]) u ys ls) → K (a.put o.dst v') w') : if Region.wanted o (yielded ops a.tmps) = true then Oper.wp Try.prog o a w K Q else X := by
  have hw : Region.wanted o (yielded ops a.tmps) = true := by simp [Region.wanted, hgd]
  rw [if_pos hw]
  obtain ⟨i, hi, hz, hsz, hby⟩ := info_parts int_info
  obtain ⟨ls, ht, hm⟩ := ht
  refine wp_append_sees s y 22 ho w0.heap.size 3 i (.int .i64 0) 1 8 Try.underlying22 hi hz hsz hby rfl (by omega) v xs.length (viI xs) hs ht.r1 w.heap.size _ 1 [.int .i64 x] hx (Sees.lit1 (ht.lit _ hm).1) (by simp [Value.oneCell']) (by unfold maxLen; omega) (by omega) ht.below.size ?_
  intro v' w' g1 g2 g3
  exact h v' w' (fun ls' ht' => ht'.app g1 g2 g3)
theorem step_two2 {ops : Array Oper} {o : Oper} {a : Act} {w : World} {K : Act → World → Prop} {Q : Exit → Act → World → Prop} {X : Prop} {w0 : World} {v u : Value} {xs ys : List Int} {G : Nat} {x : Int} (hgd : o.guard = none) (s y : Operand)
    (ho : o.op = .call { callee := .builtin .append, args := #[s, y], argTypes := #[22, 22] }) (hs : a.eval s = u) (hx : a.eval y = .slice (some ⟨G, 0, none⟩) 1 1)
    (ht : Has w0 w v xs u ys G 3 [.int .i64 x]) (hlen : ys.length ≤ 1000)
    (h : ∀ v' w', (∀ ls, Two w0 w v xs u ys ls → Two w0 w' v xs v' (ys ++ [x]) ls) → K (a.put o.dst v') w') : if Region.wanted o (yielded ops a.tmps) = true then Oper.wp Try.prog o a w K Q else X := by
  obtain ⟨ls, h1, hm⟩ := ht
  exact step_two1 hgd s y ho hs hx ⟨ls, h1.swap, hm⟩ hlen fun v' w' t => h v' w' fun ls' h' => (t ls' h'.swap).swap
end Go.Proofs.Ytiiaghmdajdbbaa

/- Rows of lists of bytes that a call makes: what they hold, a store into them, an append of one element and of several. Conditions: those of each theorem. Contracts of onetime.valid, begin, Public and of their reference: the first elements and the public key of a one-time key. Conditions: those of each theorem. Contracts of onetime.Public and of its reference: the public key of a one-time key. Conditions: that the seed is seen. -/
import Derived.Test.YtdfnandhdgbgeaaTower4
namespace Go.Proofs.Ytdfnandhdgbgeaa
open Go.RowKit
set_option linter.unusedVariables false
theorem slice_info : (Try.prog.info? 22).map (fun i => (i.zero, i.size, i.bytes)) = some (some (.slice none 0 0), 1, 24) := by kernel_rfl
section
variable {w w' : World} {B base : Nat} {u v : Value} {l : Bs} {ls : List Bs}
theorem SeesB.stay (h : SeesB w B u l) (hk : l ≠ [] → ∀ k, u.ownBlock = some k → ∀ p : Addr, p.block = k → w'.cell? p = w.cell? p) : SeesB w' B u l := by
  obtain ⟨h0, A, c, hv, h1, h2, h3⟩ := h
  refine ⟨h0, A, c, hv, h1, h2, fun hn => ?_⟩
  obtain ⟨b, o, e, hb, hc⟩ := h3 hn
  refine ⟨b, o, e, hb, fun j x hj => (hk (fun e => by subst e; exact absurd hn (by simp)) b (by rw [hv, e]; rfl) _ rfl).trans (hc j x hj)⟩
theorem SeesB.blk (h : SeesB w B u l) (hl : l ≠ []) : ∀ k, u.ownBlock = some k → k < B := by
  obtain ⟨A, c, rfl, h1, h2⟩ := h.mk_
  obtain ⟨b, o, rfl, hb, -⟩ := h.at_ (List.length_pos_iff.2 hl)
  intro k hk
  cases hk
  exact hb
/-- u shows l, and does not lie where v lies. -/
def Elt (w : World) (v u : Value) (l : Bs) : Prop := SeesB w w.heap.size u l ∧ (l ≠ [] → ∀ k, u.ownBlock = some k → v.ownBlock ≠ some k)
/-- The value is a row of the call's own; its elements show these lists. -/
def OwnL (w : World) (base : Nat) (v : Value) (ls : List Bs) : Prop :=
  ∃ vs : List Value, w.ownsRow base 22 1 v ls.length vs ∧ ∀ k, k < ls.length → ∃ u, vs[k]? = some u ∧ Elt w v u (ls.getD k [])
theorem Elt.grown (h : Elt w v u l) (hg : w.grownBy w' v.ownBlock) : SeesB w' w'.heap.size u l := by
  refine SeesB.more ?_ hg.size
  refine h.1.stay fun hl k hk p hp => World.cell?_of_block (hg.block p.block ?_ ?_)
  · rw [hp]; exact h.1.blk hl k hk
  · rw [hp]; exact fun e => h.2 hl k hk e.symm
theorem Elt.below (h : Elt w v u l) (hb : Below w.heap.size w w') : Elt w' v u l := ⟨(h.1.below hb).more hb.size, h.2⟩
theorem Elt.of_old {B : Nat} (h : SeesB w B u l) (hB : B ≤ w.heap.size) (hv : ∀ k, v.ownBlock = some k → B ≤ k) : Elt w v u l :=
  ⟨h.more hB, fun hl k hk e => by have := h.blk hl k hk; have := hv k e; omega⟩
theorem Elt.of_from {n : Nat} (h : SeesB w w.heap.size u l) (hf : From n u) (hv : ∀ k, v.ownBlock = some k → k < n) : Elt w v u l := by
  refine ⟨h, fun hl k hk e => ?_⟩
  obtain ⟨A, c, rfl, -, -⟩ := h.mk_
  cases A with
  | none => cases hk
  | some a =>
    have := hf a _ _ rfl
    have := hv k e
    cases hk
    omega
theorem OwnL.nil (w : World) (base : Nat) : OwnL w base (.slice none 0 0) [] := ⟨[], World.ownsRow_nil w base _ 1, fun k hk => absurd hk (by simp)⟩
theorem OwnL.sees (h : OwnL w base v ls) : SeesL w w.heap.size v ls := by
  obtain ⟨vs, h1, h2⟩ := h
  exact ⟨vs, Sees.of_own h1, fun k hk => by obtain ⟨u, g1, g2⟩ := h2 k hk; exact ⟨u, g1, g2.1⟩⟩
theorem OwnL.lt (h : OwnL w base v ls) : ∀ k, v.ownBlock = some k → base ≤ k ∧ k < w.heap.size := by
  obtain ⟨vs, h1, _⟩ := h
  exact h1.lt
theorem OwnL.below (h : OwnL w base v ls) (hb : Below w.heap.size w w') : OwnL w' base v ls := by
  obtain ⟨vs, h1, h2⟩ := h
  exact ⟨vs, own_below h1 hb, fun k hk => by obtain ⟨u, g1, g2⟩ := h2 k hk; exact ⟨u, g1, g2.below hb⟩⟩
theorem OwnL.mono {base' : Nat} (h : OwnL w base v ls) (hb : base' ≤ base) : OwnL w base' v ls := by
  obtain ⟨vs, h1, h2⟩ := h
  refine ⟨vs, ⟨h1.1, ?_⟩, h2⟩
  rcases h1.2 with h | ⟨g, cap, cur, e1, e2, e3⟩
  · exact .inl h
  · exact .inr ⟨g, cap, cur, e1, by omega, e3⟩
theorem OwnL.shape (h : OwnL w base v ls) : ∃ A c, v = .slice A ls.length c := by
  obtain ⟨A, c, e, -, -⟩ := h.sees.mk_
  exact ⟨A, c, e⟩
theorem OwnL.at_ {A : Option Addr} {n c : Nat} (h : OwnL w base (.slice A n c) ls) (hn : 0 < ls.length) : ∃ g, A = some ⟨g, 0, none⟩ := by
  obtain ⟨vs, h1, _⟩ := h
  rcases h1.2 with ⟨e1, e2⟩ | ⟨g, cap, cur, e1, _⟩
  · omega
  · injection e1 with e1 e2 e3; exact ⟨g, e1⟩
/-- A store into the row. -/
theorem OwnL.set {g n c k : Nat} (h : OwnL w base (.slice (some ⟨g, 0, none⟩) n c) ls) (hk : k < ls.length) (hx : Elt w (.slice (some ⟨g, 0, none⟩) n c) u l) :
    OwnL (w.setCell ⟨g, k, none⟩ u) base (.slice (some ⟨g, 0, none⟩) n c) (ls.set k l) ∧ Below base w (w.setCell ⟨g, k, none⟩ u) := by
  have hlt := h.lt g rfl
  obtain ⟨vs, h1, h2⟩ := h
  have hn : n = ls.length := by
    obtain ⟨_, A', c', e, _⟩ := Sees.of_own h1
    injection e
  subst hn
  obtain ⟨s1, s2⟩ := h1.stored k u
  refine ⟨⟨vs.set k u, by rw [List.length_set]; exact s1, fun j hj => ?_⟩, (Below.refl _ _).setCell (by dsimp only; omega) _⟩
  rw [List.length_set] at hj
  have hst : ∀ {x : Value} {m : Bs}, Elt w (.slice (some ⟨g, 0, none⟩) ls.length c) x m → Elt (w.setCell ⟨g, k, none⟩ u) (.slice (some ⟨g, 0, none⟩) ls.length c) x m := fun hx => ⟨hx.grown s2, hx.2⟩
  by_cases hjk : j = k
  · subst hjk
    refine ⟨u, List.getElem?_set_self (by rw [h1.1]; omega), ?_⟩
    rw [List.getD_eq_getElem?_getD, List.getElem?_set_self hj]
    exact hst hx
  · obtain ⟨x, e1, e2⟩ := h2 j hj
    refine ⟨x, by rw [List.getElem?_set_ne (by omega)]; exact e1, ?_⟩
    rw [List.getD_eq_getElem?_getD, List.getElem?_set_ne (by omega), ← List.getD_eq_getElem?_getD]
    exact hst e2
/-- The old cell, and that it may be written. -/
theorem OwnL.cell {g n c k : Nat} (h : OwnL w base (.slice (some ⟨g, 0, none⟩) n c) ls) (hk : k < ls.length) : (∃ z, w.cell? ⟨g, k, none⟩ = some z) ∧ w.frozen? ⟨g, k, none⟩ = false := by
  obtain ⟨vs, h1, h2⟩ := h
  have hn : n = ls.length := by
    obtain ⟨_, A', c', e, _⟩ := Sees.of_own h1
    injection e
  subst hn
  obtain ⟨x, e1, _⟩ := h2 k hk
  exact ⟨⟨x, (h1.cellAt k (by omega)).trans e1⟩, h1.frozenAt k⟩
/-- A row of empty lists, newly made. -/
theorem OwnL.made (w : World) (n : Nat) (hn : n ≤ maxLen) : OwnL (w.alloc (.cells (Array.replicate n (Value.slice none 0 0)) 22)) w.heap.size (.slice (some ⟨w.heap.size, 0, none⟩) n n) (List.replicate n []) := by
  rw [← List.toArray_replicate]
  refine ⟨List.replicate n (Value.slice none 0 0), by rw [List.length_replicate]; exact World.ownsRow_lit (base := w.heap.size) (size := 1) w (List.replicate n (Value.slice none 0 0)).toArray n (Nat.le_refl _) hn (by simp), fun k hk => ?_⟩
  rw [List.length_replicate] at hk
  refine ⟨.slice none 0 0, by simp [hk], ?_⟩
  rw [List.getD_eq_getElem?_getD, List.getElem?_replicate, if_pos hk]
  exact ⟨SeesB.nil _ _, fun h => absurd rfl h⟩
end
theorem below_own {w w' : World} {base : Nat} {v : Value} {ls : List Bs} (h : OwnL w base v ls) (hg : w.grownBy w' v.ownBlock) (hb : base ≤ w.heap.size) : Below base w w' := by
  refine ⟨hg.os, hg.tape, hg.output, hg.size, fun k hk => hg.block k (by omega) (fun e => ?_)⟩
  have := (h.lt k e.symm).1
  omega
/-- append of lists of bytes, the source whatever row of lists is seen that does not lie where the target lies. -/
theorem wp_appE {o : Oper} {a : Act} {w : World} {K : Act → World → Prop} {Q : Exit → Act → World → Prop} (s x : Operand) (T : TypeId) (hT : Try.prog.underlying T = some (.slice 22))
    (ho : o.op = .call { callee := .builtin .append, args := #[s, x], argTypes := #[T, T] })
    (base : Nat) (v : Value) (ls : List Bs) (hs : a.eval s = v) (hown : OwnL w base v ls) (B : Nat) (u : Value) (ms : List Bs) (vs : List Value) (hx : a.eval x = u) (hr : Sees w B u 1 ms.length vs)
    (hel : ∀ k, k < ms.length → ∃ y, vs[k]? = some y ∧ Elt w v y (ms.getD k []))
    (hlen : ls.length + ms.length ≤ 1099511627776) (hbase : base ≤ w.heap.size)
    (h : ∀ v' w', OwnL w' base v' (ls ++ ms) → Below base w w' → K (a.put o.dst v') w') : o.wp Try.prog a w K Q := by
  obtain ⟨i, hi, hz, hsz, hby⟩ := info_parts slice_info
  have hown' := hown
  obtain ⟨xs, h1, h2⟩ := hown
  have h1c : ∀ y ∈ vs, y.oneCell' = true := by
    intro y hy
    obtain ⟨k, hk⟩ := List.mem_iff_getElem?.1 hy
    have hkl : k < ms.length := by
      have := (List.getElem?_eq_some_iff.1 hk).1
      rw [hr.1] at this; omega
    obtain ⟨y', e1, e2⟩ := hel k hkl
    rw [hk] at e1
    cases e1
    obtain ⟨A, c, rfl, -, -⟩ := e2.1.mk_
    rfl
  refine wp_append_sees s x T ho base 22 i (.slice none 0 0) 1 24 hT hi hz hsz hby rfl (by omega) v ls.length xs hs h1 B u ms.length vs hx hr h1c (by unfold maxLen; omega) (by omega) hbase ?_
  intro v' w' g1 g2 g3
  refine h v' w' ⟨xs ++ vs, by rw [List.length_append]; exact g1, fun k hk => ?_⟩ (below_own hown' g2 hbase)
  rw [List.length_append] at hk
  have hl1 : xs.length = ls.length := by rw [h1.1, Nat.mul_one]
  have hst : ∀ {y : Value} {m : Bs}, Elt w v y m → Elt w' v' y m := fun {y m} hy => ⟨hy.grown g2, fun hm k hk => by
    rcases g3 with e | e
    · rw [e]; exact hy.2 hm k hk
    · rw [e]; intro e2; cases e2; exact absurd (hy.1.blk hm _ hk) (by omega)⟩
  by_cases hkl : k < ls.length
  · obtain ⟨y, e1, e2⟩ := h2 k hkl
    refine ⟨y, by rw [List.getElem?_append_left (by omega)]; exact e1, ?_⟩
    rw [List.getD_eq_getElem?_getD, List.getElem?_append_left hkl, ← List.getD_eq_getElem?_getD]
    exact hst e2
  · obtain ⟨y, e1, e2⟩ := hel (k - ls.length) (by omega)
    refine ⟨y, by rw [List.getElem?_append_right (by omega), hl1]; exact e1, ?_⟩
    rw [List.getD_eq_getElem?_getD, List.getElem?_append_right (by omega), ← List.getD_eq_getElem?_getD]
    exact hst e2
theorem wpList_appE {ops : Array Oper} {rest : List Oper} {o : Oper} {a : Act} {w : World} {Q : Exit → Act → World → Prop} (hgd : Region.wanted o (yielded ops a.tmps) = true) (s x : Operand) (T : TypeId) (hT : Try.prog.underlying T = some (.slice 22))
    (ho : o.op = .call { callee := .builtin .append, args := #[s, x], argTypes := #[T, T] })
    (base : Nat) (v : Value) (ls : List Bs) (hs : a.eval s = v) (hown : OwnL w base v ls) (B : Nat) (u : Value) (ms : List Bs) (vs : List Value) (hx : a.eval x = u) (hr : Sees w B u 1 ms.length vs)
    (hel : ∀ k, k < ms.length → ∃ y, vs[k]? = some y ∧ Elt w v y (ms.getD k []))
    (hlen : ls.length + ms.length ≤ 1099511627776) (hbase : base ≤ w.heap.size)
    (h : ∀ v' w', OwnL w' base v' (ls ++ ms) → Below base w w' → wpList Try.prog ops Q rest (a.put o.dst v') w') : wpList Try.prog ops Q (o :: rest) a w :=
  BigFrame.wpList_want hgd fun _ hK => wp_appE s x T hT ho base v ls hs hown B u ms vs hx hr hel hlen hbase fun v' w' h2 h3 => hK _ _ (h v' w' h2 h3)
theorem one_elt {w : World} {v y : Value} {l : Bs} (hel : Elt w v y l) : ∀ k, k < [l].length → ∃ z, [y][k]? = some z ∧ Elt w v z ([l].getD k []) := fun k hk => by
  obtain rfl : k = 0 := by simp at hk; omega
  exact ⟨y, rfl, hel⟩
/-- append of one list of bytes (its box is u). -/
theorem wpList_appL {ops : Array Oper} {rest : List Oper} {o : Oper} {a : Act} {w : World} {Q : Exit → Act → World → Prop} (hgd : Region.wanted o (yielded ops a.tmps) = true) (s x : Operand) (T : TypeId) (hT : Try.prog.underlying T = some (.slice 22))
    (ho : o.op = .call { callee := .builtin .append, args := #[s, x], argTypes := #[T, T] })
    (base : Nat) (v : Value) (ls : List Bs) (hs : a.eval s = v) (hown : OwnL w base v ls) (B : Nat) (u y : Value) (l : Bs) (hx : a.eval x = u) (hr : Sees w B u 1 1 [y]) (hel : Elt w v y l)
    (hlen : ls.length ≤ 549755813888) (hbase : base ≤ w.heap.size)
    (h : ∀ v' w', OwnL w' base v' (ls ++ [l]) → Below base w w' → wpList Try.prog ops Q rest (a.put o.dst v') w') : wpList Try.prog ops Q (o :: rest) a w :=
  wpList_appE hgd s x T hT ho base v ls hs hown B u [l] [y] hx hr (one_elt hel) (by simp; omega) hbase h
/-- The same in a region that draws its order. -/
theorem step_appL {ops : Array Oper} {o : Oper} {a : Act} {w : World} {K : Act → World → Prop} {Q : Exit → Act → World → Prop} {E : Prop} (hgd : o.guard = none) (s x : Operand) (T : TypeId) (hT : Try.prog.underlying T = some (.slice 22))
    (ho : o.op = .call { callee := .builtin .append, args := #[s, x], argTypes := #[T, T] })
    (base : Nat) (v : Value) (ls : List Bs) (hs : a.eval s = v) (hown : OwnL w base v ls) (B : Nat) (u y : Value) (l : Bs) (hx : a.eval x = u) (hr : Sees w B u 1 1 [y]) (hel : Elt w v y l)
    (hlen : ls.length ≤ 549755813888) (hbase : base ≤ w.heap.size)
    (h : ∀ v' w', OwnL w' base v' (ls ++ [l]) → Below base w w' → K (a.put o.dst v') w') : if Region.wanted o (yielded ops a.tmps) = true then Oper.wp Try.prog o a w K Q else E := by
  have hw : Region.wanted o (yielded ops a.tmps) = true := by simp [Region.wanted, hgd]
  rw [if_pos hw]
  exact wp_appE s x T hT ho base v ls hs hown B u [l] [y] hx hr (one_elt hel) (by simp; omega) hbase h
/-- append of bytes in a region that draws its order. -/
theorem step_app {ops : Array Oper} {o : Oper} {a : Act} {w : World} {K : Act → World → Prop} {Q : Exit → Act → World → Prop} {E : Prop} (hgd : o.guard = none) (s x : Operand)
    (ho : o.op = .call { callee := .builtin .append, args := #[s, x], argTypes := #[22, 22] })
    (base : Nat) (v : Value) (l : Bs) (hs : a.eval s = v) (hown : OwnB w base v l) (B : Nat) (u : Value) (m : Bs) (hx : a.eval x = u) (hr : SeesB w B u m)
    (hlen : l.length + m.length ≤ 140737488355328) (hbase : base ≤ w.heap.size)
    (h : ∀ v' w', OwnB w' base v' (l ++ m) → Below base w w' → K (a.put o.dst v') w') : if Region.wanted o (yielded ops a.tmps) = true then Oper.wp Try.prog o a w K Q else E := by
  have hw : Region.wanted o (yielded ops a.tmps) = true := by simp [Region.wanted, hgd]
  rw [if_pos hw]
  obtain ⟨i, hi, hz, hsz, hby⟩ := info_parts byte_info
  refine wp_append_sees s x 22 ho base 5 i (.int .u8 0) 1 1 Try.underlying22 hi hz hsz hby rfl (by omega) v l.length (vb l) hs hown B u m.length (vb m) hx hr (vb_one m) (by unfold maxLen; omega) (by omega) hbase ?_
  intro v' w' h1 h2 h3
  refine h v' w' ?_ (below_of_grown hown h2 hbase)
  unfold OwnB
  rw [vb_append, List.length_append]
  exact h1
theorem one_cell (w : World) (y : Value) (T : TypeId) : Sees (w.alloc (.cells #[y] T)) (w.heap.size + 1) (.slice (some ⟨w.heap.size, 0, none⟩) 1 1) 1 1 [y] := by
  refine ⟨rfl, _, 1, rfl, Nat.le_refl _, by unfold maxLen; omega, fun _ => ⟨w.heap.size, 0, rfl, by omega, fun j u hj => ?_⟩⟩
  have hj0 : j = 0 := by
    have := (List.getElem?_eq_some_iff.1 hj).1
    simp at this; omega
  subst hj0
  cases hj
  exact (Box.new w T [y]).cell 0
theorem make_lists (T : TypeId) (hT : Try.prog.underlying T = some (.slice 22)) (n : Nat) (hn : n ≤ 1048576) (w : World) : (Instr.makeSlice T (.int .i64 (n : Int)) (.int .i64 (n : Int))).run Try.prog w = .ok (.slice (some ⟨w.heap.size, 0, none⟩) n n) (w.alloc (.cells (List.replicate n (Value.slice none 0 0)).toArray 22)) := by
  obtain ⟨i, hi, hz, hs, hb⟩ := info_parts slice_info
  have h := run_make (P := Try.prog) w T 22 i (.slice none 0 0) hT hi hz .i64 .i64 n n (by omega) (by omega) (by rw [hb]; omega) (by omega)
  rw [h, hs]
  simp only [Int.toNat_natCast, Nat.mul_one]
  rw [← toList_madeCells_one]
  rfl
end Go.Proofs.Ytdfnandhdgbgeaa
namespace Go.Proofs.Ytdfnandhdgbgeaa
open Go.RowKit
set_option linter.unusedVariables false
attribute [local go_sem ↓] Go.wp_at_zero Go.wp_at_succ
theorem From.nil (base : Nat) : From base (.slice none 0 0) := by intro a n c e; cases e
def otC (seed : Bs) (i : Int) : Int := if seed.length ≠ 32 then 5 else if i < 0 ∨ 2147483647 < i then 4 else 0
def otBegin (seed : Bs) (index chain : Nat) : Bs := short (seed ++ putB 4 index ++ [UInt8.ofNat chain])
def otEnds (seed : Bs) (index : Nat) : Nat → Bs
  | 0 => []
  | n + 1 => otEnds seed index n ++ chainH 15 (otBegin seed index n)
def otPublic (seed : Bs) (index : Nat) : Bs := short (otEnds seed index 35)
theorem chainH_len (n : Nat) (b : Bs) (h : b.length = 16) : (chainH n b).length = 16 := by
  cases n with
  | zero => exact h
  | succ n => rw [chainH, short_len]
theorem otEnds_len (seed : Bs) (index n : Nat) : (otEnds seed index n).length = 16 * n := by
  induction n with
  | zero => rfl
  | succ n ih => rw [otEnds, List.length_append, ih, chainH_len 15 (otBegin seed index n) (short_len _)]; omega
theorem put4_any (n : Nat) (h : n < 18446744073709551616) (w : World) : Calls Try.prog 37 #[.int .u64 (n : Int), .int .i64 4] w (Gives (putB 4 n) w) := put_any n 4 (by omega) h w
def SecretPost (seed : Bs) (i k : Nat) (w : World) (e : Ending) (w' : World) : Prop :=
  ∃ v, e = .returned (.tuple #[v, .int .i64 0]) ∧ SeesB w' w'.heap.size v (otBegin seed i k) ∧ Below w.heap.size w w' ∧ From w.heap.size v
theorem rput4_any (n : Nat) (h : n < 18446744073709551616) (w : World) : Calls Try.prog 32 #[.int .u64 (n : Int), .int .i64 4] w (Gives (putB 4 n) w) := rput_any n 4 (by omega) h w
end Go.Proofs.Ytdfnandhdgbgeaa
namespace Go.Proofs.Ytdfnandhdgbgeaa
open Go.RowKit
set_option linter.unusedVariables false
attribute [local go_sem ↓] Go.wp_at_zero Go.wp_at_succ
theorem make_560 (W : World) : (Instr.makeSlice 22 (.int .i64 0) (.int .i64 560)).run Try.prog W = .ok (.slice (some ⟨W.heap.size, 0, none⟩) 0 560) (W.alloc (.cells (madeCells #[.int .u8 0] 560) 5)) := by
  obtain ⟨i, hi, hz, hs, hb⟩ := info_parts byte_info
  have h := run_make (P := Try.prog) W 22 5 i (.int .u8 0) Try.underlying22 hi hz .i64 .i64 0 560 (by omega) (by omega) (by rw [hb]; omega) (by omega)
  rw [h, hs]
  rfl
def pubL (seed : Bs) (i : Int) : Bs := if otC seed i = 0 then otPublic seed i.toNat else []
def PubPost (seed : Bs) (i : Int) (w : World) (e : Ending) (w' : World) : Prop :=
  ∃ v, e = .returned (.tuple #[v, .int .i64 (otC seed i)]) ∧ SeesB w' w'.heap.size v (pubL seed i) ∧ Below w.heap.size w w' ∧ From w.heap.size v
theorem otC_ok {seed : Bs} {i : Int} (h : otC seed i = 0) : seed.length = 32 ∧ 0 ≤ i ∧ i ≤ 2147483647 := by
  unfold otC at h
  by_cases h1 : seed.length = 32
  · rw [if_neg (by simpa using h1)] at h
    split at h
    · omega
    · omega
  · rw [if_pos h1] at h; omega
end Go.Proofs.Ytdfnandhdgbgeaa

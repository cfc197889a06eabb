/- A piece of my texts, cut out by slice.py: what a claim leans on. -/
import Derived.Test.YtamdgjgommejjaaGreatDBa
namespace Go.Proofs.YtamdgjgommejjaaGreat
section
open Go.RowKit
set_option linter.unusedVariables false
theorem slice_info : (Tryz.prog.info? 23).map (fun i => (i.zero, i.size, i.bytes)) = some (some (.slice none 0 0), 1, 24) := by kernel_rfl
section
variable {w w' : World} {B base : Nat} {u v : Value} {l : Bs} {ls : List Bs}
theorem SeesB.stay (h : SeesB w B u l) (hk : l ≠ [] → ∀ k, u.ownBlock = some k → ∀ p : Addr, p.block = k → w'.cell? p = w.cell? p) : SeesB w' B u l := by
  obtain ⟨h0, A, c, hv, h1, h2, h3⟩ := h
  refine ⟨h0, A, c, hv, h1, h2, fun hn => ?_⟩
  obtain ⟨b, o, e, hb, hc⟩ := h3 hn
  refine ⟨b, o, e, hb, fun j x hj => (hk (fun e => by subst e; exact absurd hn (by simp)) b (by rw [hv, e]; rfl) _ rfl).trans (hc j x hj)⟩
theorem SeesB.blk (h : SeesB w B u l) (hl : l ≠ []) : ∀ k, u.ownBlock = some k → k < B := by
  obtain ⟨A, c, rfl, h1, h2⟩ := h.mk_
  obtain ⟨b, o, rfl, hb, -⟩ := h.at_ (List.length_pos_iff.2 hl)
  intro k hk
  cases hk
  exact hb
/-- u shows l, and does not lie where v lies. -/
def Elt (w : World) (v u : Value) (l : Bs) : Prop := SeesB w w.heap.size u l ∧ (l ≠ [] → ∀ k, u.ownBlock = some k → v.ownBlock ≠ some k)
/-- The value is a row of the call's own; its elements show these lists. -/
def OwnL (w : World) (base : Nat) (v : Value) (ls : List Bs) : Prop :=
  ∃ vs : List Value, w.ownsRow base 23 1 v ls.length vs ∧ ∀ k, k < ls.length → ∃ u, vs[k]? = some u ∧ Elt w v u (ls.getD k [])
theorem Elt.grown (h : Elt w v u l) (hg : w.grownBy w' v.ownBlock) : SeesB w' w'.heap.size u l := by
  refine SeesB.more ?_ hg.size
  refine h.1.stay fun hl k hk p hp => World.cell?_of_block (hg.block p.block ?_ ?_)
  · rw [hp]; exact h.1.blk hl k hk
  · rw [hp]; exact fun e => h.2 hl k hk e.symm
theorem Elt.below (h : Elt w v u l) (hb : Below w.heap.size w w') : Elt w' v u l := ⟨(h.1.below hb).more hb.size, h.2⟩
theorem Elt.of_old {B : Nat} (h : SeesB w B u l) (hB : B ≤ w.heap.size) (hv : ∀ k, v.ownBlock = some k → B ≤ k) : Elt w v u l :=
  ⟨h.more hB, fun hl k hk e => by have := h.blk hl k hk; have := hv k e; omega⟩
theorem Elt.of_from {n : Nat} (h : SeesB w w.heap.size u l) (hf : From n u) (hv : ∀ k, v.ownBlock = some k → k < n) : Elt w v u l := by
  refine ⟨h, fun hl k hk e => ?_⟩
  obtain ⟨A, c, rfl, -, -⟩ := h.mk_
  cases A with
  | none => cases hk
  | some a =>
    have := hf a _ _ rfl
    have := hv k e
    cases hk
    omega
theorem OwnL.nil (w : World) (base : Nat) : OwnL w base (.slice none 0 0) [] := ⟨[], World.ownsRow_nil w base _ 1, fun k hk => absurd hk (by simp)⟩
theorem OwnL.sees (h : OwnL w base v ls) : SeesL w w.heap.size v ls := by
  obtain ⟨vs, h1, h2⟩ := h
  exact ⟨vs, Sees.of_own h1, fun k hk => by obtain ⟨u, g1, g2⟩ := h2 k hk; exact ⟨u, g1, g2.1⟩⟩
theorem OwnL.lt (h : OwnL w base v ls) : ∀ k, v.ownBlock = some k → base ≤ k ∧ k < w.heap.size := by
  obtain ⟨vs, h1, _⟩ := h
  exact h1.lt
theorem OwnL.below (h : OwnL w base v ls) (hb : Below w.heap.size w w') : OwnL w' base v ls := by
  obtain ⟨vs, h1, h2⟩ := h
  exact ⟨vs, own_below h1 hb, fun k hk => by obtain ⟨u, g1, g2⟩ := h2 k hk; exact ⟨u, g1, g2.below hb⟩⟩
theorem OwnL.mono {base' : Nat} (h : OwnL w base v ls) (hb : base' ≤ base) : OwnL w base' v ls := by
  obtain ⟨vs, h1, h2⟩ := h
  refine ⟨vs, ⟨h1.1, ?_⟩, h2⟩
  rcases h1.2 with h | ⟨g, cap, cur, e1, e2, e3⟩
  · exact .inl h
  · exact .inr ⟨g, cap, cur, e1, by omega, e3⟩
theorem OwnL.shape (h : OwnL w base v ls) : ∃ A c, v = .slice A ls.length c := by
  obtain ⟨A, c, e, -, -⟩ := h.sees.mk_
  exact ⟨A, c, e⟩
theorem OwnL.at_ {A : Option Addr} {n c : Nat} (h : OwnL w base (.slice A n c) ls) (hn : 0 < ls.length) : ∃ g, A = some ⟨g, 0, none⟩ := by
  obtain ⟨vs, h1, _⟩ := h
  rcases h1.2 with ⟨e1, e2⟩ | ⟨g, cap, cur, e1, _⟩
  · omega
  · injection e1 with e1 e2 e3; exact ⟨g, e1⟩
/-- A store into the row. -/
theorem OwnL.set {g n c k : Nat} (h : OwnL w base (.slice (some ⟨g, 0, none⟩) n c) ls) (hk : k < ls.length) (hx : Elt w (.slice (some ⟨g, 0, none⟩) n c) u l) :
    OwnL (w.setCell ⟨g, k, none⟩ u) base (.slice (some ⟨g, 0, none⟩) n c) (ls.set k l) ∧ Below base w (w.setCell ⟨g, k, none⟩ u) := by
  have hlt := h.lt g rfl
  obtain ⟨vs, h1, h2⟩ := h
  have hn : n = ls.length := by
    obtain ⟨_, A', c', e, _⟩ := Sees.of_own h1
    injection e
  subst hn
  obtain ⟨s1, s2⟩ := h1.stored k u
  refine ⟨⟨vs.set k u, by rw [List.length_set]; exact s1, fun j hj => ?_⟩, (Below.refl _ _).setCell (by dsimp only; omega) _⟩
  rw [List.length_set] at hj
  have hst : ∀ {x : Value} {m : Bs}, Elt w (.slice (some ⟨g, 0, none⟩) ls.length c) x m → Elt (w.setCell ⟨g, k, none⟩ u) (.slice (some ⟨g, 0, none⟩) ls.length c) x m := fun hx => ⟨hx.grown s2, hx.2⟩
  by_cases hjk : j = k
  · subst hjk
    refine ⟨u, List.getElem?_set_self (by rw [h1.1]; omega), ?_⟩
    rw [List.getD_eq_getElem?_getD, List.getElem?_set_self hj]
    exact hst hx
  · obtain ⟨x, e1, e2⟩ := h2 j hj
    refine ⟨x, by rw [List.getElem?_set_ne (by omega)]; exact e1, ?_⟩
    rw [List.getD_eq_getElem?_getD, List.getElem?_set_ne (by omega), ← List.getD_eq_getElem?_getD]
    exact hst e2
/-- The old cell, and that it may be written. -/
theorem OwnL.cell {g n c k : Nat} (h : OwnL w base (.slice (some ⟨g, 0, none⟩) n c) ls) (hk : k < ls.length) : (∃ z, w.cell? ⟨g, k, none⟩ = some z) ∧ w.frozen? ⟨g, k, none⟩ = false := by
  obtain ⟨vs, h1, h2⟩ := h
  have hn : n = ls.length := by
    obtain ⟨_, A', c', e, _⟩ := Sees.of_own h1
    injection e
  subst hn
  obtain ⟨x, e1, _⟩ := h2 k hk
  exact ⟨⟨x, (h1.cellAt k (by omega)).trans e1⟩, h1.frozenAt k⟩
/-- A row of empty lists, newly made. -/
theorem OwnL.made (w : World) (n : Nat) (hn : n ≤ maxLen) : OwnL (w.alloc (.cells (Array.replicate n (Value.slice none 0 0)) 23)) w.heap.size (.slice (some ⟨w.heap.size, 0, none⟩) n n) (List.replicate n []) := by
  rw [← List.toArray_replicate]
  refine ⟨List.replicate n (Value.slice none 0 0), by rw [List.length_replicate]; exact World.ownsRow_lit (base := w.heap.size) (size := 1) w (List.replicate n (Value.slice none 0 0)).toArray n (Nat.le_refl _) hn (by simp), fun k hk => ?_⟩
  rw [List.length_replicate] at hk
  refine ⟨.slice none 0 0, by simp [hk], ?_⟩
  rw [List.getD_eq_getElem?_getD, List.getElem?_replicate, if_pos hk]
  exact ⟨SeesB.nil _ _, fun h => absurd rfl h⟩
end
theorem below_own {w w' : World} {base : Nat} {v : Value} {ls : List Bs} (h : OwnL w base v ls) (hg : w.grownBy w' v.ownBlock) (hb : base ≤ w.heap.size) : Below base w w' := by
  refine ⟨hg.os, hg.tape, hg.output, hg.size, fun k hk => hg.block k (by omega) (fun e => ?_)⟩
  have := (h.lt k e.symm).1
  omega
/-- append of lists of bytes, the source whatever row of lists is seen that does not lie where the target lies. -/
theorem wp_appE {o : Oper} {a : Act} {w : World} {K : Act → World → Prop} {Q : Exit → Act → World → Prop} (s x : Operand) (T : TypeId) (hT : Tryz.prog.underlying T = some (.slice 23))
    (ho : o.op = .call { callee := .builtin .append, args := #[s, x], argTypes := #[T, T] })
    (base : Nat) (v : Value) (ls : List Bs) (hs : a.eval s = v) (hown : OwnL w base v ls) (B : Nat) (u : Value) (ms : List Bs) (vs : List Value) (hx : a.eval x = u) (hr : Sees w B u 1 ms.length vs)
    (hel : ∀ k, k < ms.length → ∃ y, vs[k]? = some y ∧ Elt w v y (ms.getD k []))
    (hlen : ls.length + ms.length ≤ 1099511627776) (hbase : base ≤ w.heap.size)
    (h : ∀ v' w', OwnL w' base v' (ls ++ ms) → Below base w w' → K (a.put o.dst v') w') : o.wp Tryz.prog a w K Q := by
  obtain ⟨i, hi, hz, hsz, hby⟩ := info_parts slice_info
  have hown' := hown
  obtain ⟨xs, h1, h2⟩ := hown
  have h1c : ∀ y ∈ vs, y.oneCell' = true := by
    intro y hy
    obtain ⟨k, hk⟩ := List.mem_iff_getElem?.1 hy
    have hkl : k < ms.length := by
      have := (List.getElem?_eq_some_iff.1 hk).1
      rw [hr.1] at this; omega
    obtain ⟨y', e1, e2⟩ := hel k hkl
    rw [hk] at e1
    cases e1
    obtain ⟨A, c, rfl, -, -⟩ := e2.1.mk_
    rfl
  refine wp_append_sees s x T ho base 23 i (.slice none 0 0) 1 24 hT hi hz hsz hby rfl (by omega) v ls.length xs hs h1 B u ms.length vs hx hr h1c (by unfold maxLen; omega) (by omega) hbase ?_
  intro v' w' g1 g2 g3
  refine h v' w' ⟨xs ++ vs, by rw [List.length_append]; exact g1, fun k hk => ?_⟩ (below_own hown' g2 hbase)
  rw [List.length_append] at hk
  have hl1 : xs.length = ls.length := by rw [h1.1, Nat.mul_one]
  have hst : ∀ {y : Value} {m : Bs}, Elt w v y m → Elt w' v' y m := fun {y m} hy => ⟨hy.grown g2, fun hm k hk => by
    rcases g3 with e | e
    · rw [e]; exact hy.2 hm k hk
    · rw [e]; intro e2; cases e2; exact absurd (hy.1.blk hm _ hk) (by omega)⟩
  by_cases hkl : k < ls.length
  · obtain ⟨y, e1, e2⟩ := h2 k hkl
    refine ⟨y, by rw [List.getElem?_append_left (by omega)]; exact e1, ?_⟩
    rw [List.getD_eq_getElem?_getD, List.getElem?_append_left hkl, ← List.getD_eq_getElem?_getD]
    exact hst e2
  · obtain ⟨y, e1, e2⟩ := hel (k - ls.length) (by omega)
    refine ⟨y, by rw [List.getElem?_append_right (by omega), hl1]; exact e1, ?_⟩
    rw [List.getD_eq_getElem?_getD, List.getElem?_append_right (by omega), ← List.getD_eq_getElem?_getD]
    exact hst e2
theorem wpList_appE {ops : Array Oper} {rest : List Oper} {o : Oper} {a : Act} {w : World} {Q : Exit → Act → World → Prop} (hgd : Region.wanted o (yielded ops a.tmps) = true) (s x : Operand) (T : TypeId) (hT : Tryz.prog.underlying T = some (.slice 23))
    (ho : o.op = .call { callee := .builtin .append, args := #[s, x], argTypes := #[T, T] })
    (base : Nat) (v : Value) (ls : List Bs) (hs : a.eval s = v) (hown : OwnL w base v ls) (B : Nat) (u : Value) (ms : List Bs) (vs : List Value) (hx : a.eval x = u) (hr : Sees w B u 1 ms.length vs)
    (hel : ∀ k, k < ms.length → ∃ y, vs[k]? = some y ∧ Elt w v y (ms.getD k []))
    (hlen : ls.length + ms.length ≤ 1099511627776) (hbase : base ≤ w.heap.size)
    (h : ∀ v' w', OwnL w' base v' (ls ++ ms) → Below base w w' → wpList Tryz.prog ops Q rest (a.put o.dst v') w') : wpList Tryz.prog ops Q (o :: rest) a w :=
  BigFrame.wpList_want hgd fun _ hK => wp_appE s x T hT ho base v ls hs hown B u ms vs hx hr hel hlen hbase fun v' w' h2 h3 => hK _ _ (h v' w' h2 h3)
theorem one_elt {w : World} {v y : Value} {l : Bs} (hel : Elt w v y l) : ∀ k, k < [l].length → ∃ z, [y][k]? = some z ∧ Elt w v z ([l].getD k []) := fun k hk => by
  obtain rfl : k = 0 := by simp at hk; omega
  exact ⟨y, rfl, hel⟩
/-- append of one list of bytes (its box is u). -/
theorem wpList_appL {ops : Array Oper} {rest : List Oper} {o : Oper} {a : Act} {w : World} {Q : Exit → Act → World → Prop} (hgd : Region.wanted o (yielded ops a.tmps) = true) (s x : Operand) (T : TypeId) (hT : Tryz.prog.underlying T = some (.slice 23))
    (ho : o.op = .call { callee := .builtin .append, args := #[s, x], argTypes := #[T, T] })
    (base : Nat) (v : Value) (ls : List Bs) (hs : a.eval s = v) (hown : OwnL w base v ls) (B : Nat) (u y : Value) (l : Bs) (hx : a.eval x = u) (hr : Sees w B u 1 1 [y]) (hel : Elt w v y l)
    (hlen : ls.length ≤ 549755813888) (hbase : base ≤ w.heap.size)
    (h : ∀ v' w', OwnL w' base v' (ls ++ [l]) → Below base w w' → wpList Tryz.prog ops Q rest (a.put o.dst v') w') : wpList Tryz.prog ops Q (o :: rest) a w :=
  wpList_appE hgd s x T hT ho base v ls hs hown B u [l] [y] hx hr (one_elt hel) (by simp; omega) hbase h
/-- The same in a region that draws its order. -/
theorem step_appL {ops : Array Oper} {o : Oper} {a : Act} {w : World} {K : Act → World → Prop} {Q : Exit → Act → World → Prop} {E : Prop} (hgd : o.guard = none) (s x : Operand) (T : TypeId) (hT : Tryz.prog.underlying T = some (.slice 23))
    (ho : o.op = .call { callee := .builtin .append, args := #[s, x], argTypes := #[T, T] })
    (base : Nat) (v : Value) (ls : List Bs) (hs : a.eval s = v) (hown : OwnL w base v ls) (B : Nat) (u y : Value) (l : Bs) (hx : a.eval x = u) (hr : Sees w B u 1 1 [y]) (hel : Elt w v y l)
    (hlen : ls.length ≤ 549755813888) (hbase : base ≤ w.heap.size)
    (h : ∀ v' w', OwnL w' base v' (ls ++ [l]) → Below base w w' → K (a.put o.dst v') w') : if Region.wanted o (yielded ops a.tmps) = true then Oper.wp Tryz.prog o a w K Q else E := by
  have hw : Region.wanted o (yielded ops a.tmps) = true := by simp [Region.wanted, hgd]
  rw [if_pos hw]
  exact wp_appE s x T hT ho base v ls hs hown B u [l] [y] hx hr (one_elt hel) (by simp; omega) hbase h
theorem one_cell (w : World) (y : Value) (T : TypeId) : Sees (w.alloc (.cells #[y] T)) (w.heap.size + 1) (.slice (some ⟨w.heap.size, 0, none⟩) 1 1) 1 1 [y] := by
  refine ⟨rfl, _, 1, rfl, Nat.le_refl _, by unfold maxLen; omega, fun _ => ⟨w.heap.size, 0, rfl, by omega, fun j u hj => ?_⟩⟩
  have hj0 : j = 0 := by
    have := (List.getElem?_eq_some_iff.1 hj).1
    simp at this; omega
  subst hj0
  cases hj
  exact (Box.new w T [y]).cell 0
theorem make_lists (T : TypeId) (hT : Tryz.prog.underlying T = some (.slice 23)) (n : Nat) (hn : n ≤ 1048576) (w : World) : (Instr.makeSlice T (.int .i64 (n : Int)) (.int .i64 (n : Int))).run Tryz.prog w = .ok (.slice (some ⟨w.heap.size, 0, none⟩) n n) (w.alloc (.cells (List.replicate n (Value.slice none 0 0)).toArray 23)) := by
  obtain ⟨i, hi, hz, hs, hb⟩ := info_parts slice_info
  have h := run_make (P := Tryz.prog) w T 23 i (.slice none 0 0) hT hi hz .i64 .i64 n n (by omega) (by omega) (by rw [hb]; omega) (by omega)
  rw [h, hs]
  simp only [Int.toNat_natCast, Nat.mul_one]
  rw [← toList_madeCells_one]
  rfl
end
section
open Go.RowKit
set_option linter.unusedVariables false
attribute [local go_sem ↓] Go.wp_at_zero Go.wp_at_succ
theorem From.nil (base : Nat) : From base (.slice none 0 0) := by intro a n c e; cases e
def otC (seed : Bs) (i : Int) : Int := if seed.length ≠ 32 then 5 else if i < 0 ∨ 2147483647 < i then 4 else 0
def otBegin (seed : Bs) (index chain : Nat) : Bs := short (seed ++ putB 4 index ++ [UInt8.ofNat chain])
def otEnds (seed : Bs) (index : Nat) : Nat → Bs
  | 0 => []
  | n + 1 => otEnds seed index n ++ chainH 15 (otBegin seed index n)
def otPublic (seed : Bs) (index : Nat) : Bs := short (otEnds seed index 35)
theorem chainH_len (n : Nat) (b : Bs) (h : b.length = 16) : (chainH n b).length = 16 := by
  cases n with
  | zero => exact h
  | succ n => rw [chainH, short_len]
theorem otEnds_len (seed : Bs) (index n : Nat) : (otEnds seed index n).length = 16 * n := by
  induction n with
  | zero => rfl
  | succ n ih => rw [otEnds, List.length_append, ih, chainH_len 15 (otBegin seed index n) (short_len _)]; omega
theorem otvalid_any (B : Nat) (u : Value) (seed : Bs) (i : Int) (w : World) (hu : SeesB w B u seed) :
    Calls Tryz.prog 107 #[u, .int .i64 i] w fun e w' => e = .returned (.int .i64 (otC seed i)) ∧ w' = w := by
  obtain ⟨A, c, rfl, hc1, hc2⟩ := hu.mk_
  clear hu
  by_cases hl : seed.length = 32
  · rw [hl]
    by_cases h0 : i < 0
    · go_enter Tryz.func107, Tryz.ntmps107
      go_wp2
      go_ret
      exact ⟨ret_int (by simp [otC, hl, h0]), rfl⟩
    · by_cases h1 : 2147483647 < i
      · go_enter Tryz.func107, Tryz.ntmps107
        go_wp2
        go_ret
        exact ⟨ret_int (by simp [otC, hl, h1]), rfl⟩
      · go_enter Tryz.func107, Tryz.ntmps107
        go_wp2
        go_ret
        exact ⟨ret_int (by simp [otC, hl]; omega), rfl⟩
  · have hl2 : ¬ ((seed.length : Int) = 32) := by omega
    go_enter Tryz.func107, Tryz.ntmps107
    go_wp2
    go_ret
    exact ⟨ret_int (by simp [otC, hl]), rfl⟩
theorem rotvalid_any (B : Nat) (u : Value) (seed : Bs) (i : Int) (w : World) (hu : SeesB w B u seed) :
    Calls Tryz.prog 95 #[u, .int .i64 i] w fun e w' => e = .returned (.int .i64 (otC seed i)) ∧ w' = w := by
  obtain ⟨A, c, rfl, hc1, hc2⟩ := hu.mk_
  clear hu
  by_cases hl : seed.length = 32
  · rw [hl]
    by_cases h0 : i < 0
    · go_enter Tryz.func95, Tryz.ntmps95
      go_wp2
      go_ret
      exact ⟨ret_int (by simp [otC, hl, h0]), rfl⟩
    · by_cases h1 : 2147483647 < i
      · go_enter Tryz.func95, Tryz.ntmps95
        go_wp2
        go_ret
        exact ⟨ret_int (by simp [otC, hl, h1]), rfl⟩
      · go_enter Tryz.func95, Tryz.ntmps95
        go_wp2
        go_ret
        exact ⟨ret_int (by simp [otC, hl]; omega), rfl⟩
  · have hl2 : ¬ ((seed.length : Int) = 32) := by omega
    go_enter Tryz.func95, Tryz.ntmps95
    go_wp2
    go_ret
    exact ⟨ret_int (by simp [otC, hl]), rfl⟩
theorem put4_any (n : Nat) (h : n < 18446744073709551616) (w : World) : Calls Tryz.prog 48 #[.int .u64 (n : Int), .int .i64 4] w (Gives (putB 4 n) w) := put_any n 4 (by omega) h w
set_option maxRecDepth 100000 in
theorem begin_any (B : Nat) (u : Value) (seed : Bs) (i k : Nat) (w : World) (hu : SeesB w B u seed) (hB : B ≤ w.heap.size) (hl : seed.length ≤ 100000) (hi : i ≤ 2147483647) (hk : k < 256) :
    Calls Tryz.prog 110 #[u, .int .i64 (i : Int), .int .i64 (k : Int)] w (Shows (otBegin seed i k) w) := by
  obtain ⟨A, c, rfl, hc1, hc2⟩ := hu.mk_
  have m0 : IntKind.u64.wrap (i : Int) = (i : Int) := by rw [IntKind.wrap_u64]; omega
  have m1 : IntKind.u8.wrap (k : Int) = (k : Int) := by rw [IntKind.wrap_u8]; omega
  have hx : ((UInt8.ofNat k).toNat : Int) = (k : Int) := by simp; omega
  have hp := Lib.hid (put4_any i (by omega) w)
  replace hu := Lib.hid hu
  replace hx := Lib.hid hx
  go_enter Tryz.func110, Tryz.ntmps110
  go_wp2_with fail
  refine hp.out.mono ?_
  rintro e w1 ⟨v1, rfl, h1, hb1⟩
  obtain ⟨A1, c1, rfl, -, -⟩ := h1.sees.mk_
  dsimp only
  go_wp2_with fail
  have hb2 := balloc w1 (.cells #[.int .u8 (k : Int)] 5)
  have h2 := one_byte w1 (UInt8.ofNat k) k hx.out
  have hw2 := bgo hb1 hb2
  have hu2 := hu.out.below (hw2.mono hB)
  have h12 := h1.below hb2
  have hsz1 : (w1.alloc (.cells #[.int .u8 (k : Int)] 5)).heap.size = w1.heap.size + 1 := World.size_alloc _ _
  rw [← hsz1]
  generalize w1.alloc (.cells #[.int .u8 (k : Int)] 5) = w2 at *
  generalize w1.heap.size = g1 at *
  have hl3 := seesL_lit w2 23 (show SeesAll w2 w2.heap.size [.slice A seed.length c, .slice A1 (putB 4 i).length c1, .slice (some ⟨g1, 0, none⟩) 1 1] [seed, putB 4 i, [UInt8.ofNat k]] from ⟨hu2.more (Nat.le_trans hB hw2.size), h12.sees, h2.sees, trivial⟩) (by simp [maxLen])
  have hp4 := putB_len 4 i
  have hfl : [seed, putB 4 i, [UInt8.ofNat k]].flatten = seed ++ putB 4 i ++ [UInt8.ofNat k] := by simp
  refine (join_any _ _ _ _ hl3 (Nat.le_refl _) (by rw [hfl]; simp [hp4]; omega)).mono ?_
  rintro e w3 ⟨v3, rfl, h3, hb3⟩
  rw [hfl] at h3
  have hw3 := bgo (bgo hw2 (balloc w2 _)) hb3
  dsimp only
  go_wp2_with fail
  refine (short_any _ _ _ _ h3.sees (Nat.le_refl _) (by simp [hp4]; omega)).mono ?_
  rintro e w4 ⟨v4, rfl, h4, hb4, hf4⟩
  dsimp only
  go_wp2_with fail
  go_ret
  exact ⟨v4, rfl, h4, bgo hw3 hb4, hf4.mono hw3.size⟩
def SecretPost (seed : Bs) (i k : Nat) (w : World) (e : Ending) (w' : World) : Prop :=
  ∃ v, e = .returned (.tuple #[v, .int .i64 0]) ∧ SeesB w' w'.heap.size v (otBegin seed i k) ∧ Below w.heap.size w w' ∧ From w.heap.size v
theorem rput4_any (n : Nat) (h : n < 18446744073709551616) (w : World) : Calls Tryz.prog 15 #[.int .u64 (n : Int), .int .i64 4] w (Gives (putB 4 n) w) := rput_any n 4 (by omega) h w
set_option maxRecDepth 100000 in
theorem rsecret_any (B : Nat) (u : Value) (seed : Bs) (i k : Nat) (w : World) (hu : SeesB w B u seed) (hB : B ≤ w.heap.size) (hl : seed.length = 32) (hi : i ≤ 2147483647) (hk : k < 35) :
    Calls Tryz.prog 97 #[u, .int .i64 (i : Int), .int .i64 (k : Int)] w (SecretPost seed i k w) := by
  obtain ⟨A, c, rfl, hc1, hc2⟩ := hu.mk_
  rw [hl] at hc1 hu ⊢
  have m0 : IntKind.u64.wrap (i : Int) = (i : Int) := by rw [IntKind.wrap_u64]; omega
  have m1 : IntKind.u8.wrap (k : Int) = (k : Int) := by rw [IntKind.wrap_u8]; omega
  have hx : ((UInt8.ofNat k).toNat : Int) = (k : Int) := by simp; omega
  have hv0 := rotvalid_any B _ seed (i : Int) w hu
  rw [show otC seed (i : Int) = 0 by simp [otC, hl]; omega] at hv0
  replace hv0 := Lib.hid hv0
  have hp := Lib.hid (rput4_any i (by omega) w)
  have k0 : ¬ ((k : Int) < 0) := by omega
  have k1 : ¬ ((35 : Int) ≤ (k : Int)) := by omega
  replace hu := Lib.hid hu
  replace hx := Lib.hid hx
  go_enter Tryz.func97, Tryz.ntmps97
  go_wp2_with fail
  refine hv0.out.mono ?_
  rintro e w0 ⟨rfl, rfl⟩
  dsimp only
  go_wp2_with fail
  refine hp.out.mono ?_
  rintro e w1 ⟨v1, rfl, h1, hb1⟩
  obtain ⟨A1, c1, rfl, -, -⟩ := h1.sees.mk_
  dsimp only
  go_wp2_with fail
  have hb2 := balloc w1 (.cells #[.int .u8 (k : Int)] 5)
  have h2 := one_byte w1 (UInt8.ofNat k) k hx.out
  have hw2 := bgo hb1 hb2
  have hu2 := hu.out.below (hw2.mono hB)
  have h12 := h1.below hb2
  have hsz1 : (w1.alloc (.cells #[.int .u8 (k : Int)] 5)).heap.size = w1.heap.size + 1 := World.size_alloc _ _
  rw [← hsz1]
  generalize w1.alloc (.cells #[.int .u8 (k : Int)] 5) = w2 at *
  generalize w1.heap.size = g1 at *
  have hl3 := seesL_lit w2 23 (show SeesAll w2 w2.heap.size [.slice A 32 c, .slice A1 (putB 4 i).length c1, .slice (some ⟨g1, 0, none⟩) 1 1] [seed, putB 4 i, [UInt8.ofNat k]] from ⟨hu2.more (Nat.le_trans hB hw2.size), h12.sees, h2.sees, trivial⟩) (by simp [maxLen])
  have hp4 := putB_len 4 i
  have hfl : [seed, putB 4 i, [UInt8.ofNat k]].flatten = seed ++ putB 4 i ++ [UInt8.ofNat k] := by simp
  refine (rjoin_any _ _ _ _ hl3 (Nat.le_refl _) (by rw [hfl]; simp [hp4]; omega)).mono ?_
  rintro e w3 ⟨v3, rfl, h3, hb3⟩
  rw [hfl] at h3
  have hw3 := bgo (bgo hw2 (balloc w2 _)) hb3
  dsimp only
  go_wp2_with fail
  refine (rshort_any _ _ _ _ h3.sees (Nat.le_refl _) (by simp [hp4]; omega)).mono ?_
  rintro e w4 ⟨v4, rfl, h4, hb4, hf4⟩
  dsimp only
  go_wp2_with fail
  go_returns
  exact ⟨v4, rfl, h4, bgo hw3 hb4, hf4.mono hw3.size⟩
end
section
open Go.RowKit
set_option linter.unusedVariables false
attribute [local go_sem ↓] Go.wp_at_zero Go.wp_at_succ
theorem make_560 (W : World) : (Instr.makeSlice 23 (.int .i64 0) (.int .i64 560)).run Tryz.prog W = .ok (.slice (some ⟨W.heap.size, 0, none⟩) 0 560) (W.alloc (.cells (madeCells #[.int .u8 0] 560) 5)) := by
  obtain ⟨i, hi, hz, hs, hb⟩ := info_parts byte_info
  have h := run_make (P := Tryz.prog) W 23 5 i (.int .u8 0) Tryz.underlying23 hi hz .i64 .i64 0 560 (by omega) (by omega) (by rw [hb]; omega) (by omega)
  rw [h, hs]
  rfl
def pubL (seed : Bs) (i : Int) : Bs := if otC seed i = 0 then otPublic seed i.toNat else []
def PubPost (seed : Bs) (i : Int) (w : World) (e : Ending) (w' : World) : Prop :=
  ∃ v, e = .returned (.tuple #[v, .int .i64 (otC seed i)]) ∧ SeesB w' w'.heap.size v (pubL seed i) ∧ Below w.heap.size w w' ∧ From w.heap.size v
theorem otC_ok {seed : Bs} {i : Int} (h : otC seed i = 0) : seed.length = 32 ∧ 0 ≤ i ∧ i ≤ 2147483647 := by
  unfold otC at h
  by_cases h1 : seed.length = 32
  · rw [if_neg (by simpa using h1)] at h
    split at h
    · omega
    · omega
  · rw [if_pos h1] at h; omega
set_option maxRecDepth 100000 in
theorem otpublic_any (B : Nat) (u : Value) (seed : Bs) (i : Int) (w : World) (hu : SeesB w B u seed) (hB : B ≤ w.heap.size) :
    Calls Tryz.prog 106 #[u, .int .i64 i] w (PubPost seed i w) := by
  obtain ⟨A, c, rfl, hc1, hc2⟩ := hu.mk_
  have hv := otvalid_any B _ seed i w hu
  by_cases h0 : otC seed i = 0
  · have hpl : Hid (pubL seed i = otPublic seed i.toNat) := by show _ = _; rw [pubL, if_pos h0]
    obtain ⟨hl, i0, i1⟩ := otC_ok h0
    have hoc := Lib.hid h0
    rw [h0] at hv
    obtain ⟨n, rfl⟩ := Int.eq_ofNat_of_zero_le i0
    rw [Int.toNat_natCast] at hpl
    rw [hl] at hc1 hu hv ⊢
    replace hu := Lib.hid hu
    replace hv := Lib.hid hv
    have hl' := Lib.hid hl
    clear h0 i0 hl
    have hmk := make_560
    go_enter Tryz.func106, Tryz.ntmps106
    go_wp2_with fail
    refine hv.out.mono ?_
    rintro e w0 ⟨rfl, rfl⟩
    dsimp only
    go_wp2_with fail
    refine wp_fresh (fun W => OwnB W w0.heap.size (.slice (some ⟨w0.heap.size, 0, none⟩) 0 560) [] ∧ Below w0.heap.size w0 W) ⟨World.ownsRow_made w0 _ 560 (Nat.le_refl _) (by unfold maxLen; omega) (size_madeCells _ _), (Below.refl _ _).alloc (Nat.le_refl _) _⟩ ?_
    rintro W1 ⟨ho, hb⟩
    replace ho := Lib.hid ho
    replace hb := Lib.hid hb
    clear hmk hv
    go_loopw [7, 8, 16] (fun r _ t wr => ∃ k : Nat, k ≤ 35 ∧ t = .int .i64 k ∧ Hid (OwnB wr w0.heap.size r (otEnds seed n k)) ∧ Hid (Below w0.heap.size w0 wr)) (fun _ _ t _ => 35 - (intOf t).toNat)
    case atStart => exact ⟨0, by omega, rfl, ho, hb⟩
    case round =>
      clear ho hb
      obtain ⟨k, hk, rfl, ho, hb⟩ := hrel
      by_cases hlt : k < 35
      · have i0 : (k : Int) < 35 := by omega
        have hst : Hid (otEnds seed n (k + 1) = otEnds seed n k ++ chainH 15 (otBegin seed n k)) := rfl
        have hlen := otEnds_len seed n k
        have hlc := chainH_len 15 (otBegin seed n k) (short_len _)
        have hlb : (otBegin seed n k).length = 16 := short_len _
        have hbg := Lib.hid (begin_any B _ seed n k wr (hu.out.below (hb.out.mono hB)) (Nat.le_trans hB hb.out.size) (by rw [hl'.out]; omega) (by omega) (by omega))
        generalize otEnds seed n k = acc at *
        generalize otBegin seed n k = bg at *
        replace hlen := Lib.hid hlen
        replace hlc := Lib.hid hlc
        replace hlb := Lib.hid hlb
        obtain ⟨Ar, cr, rfl, -, -⟩ := ho.out.sees.mk_
        go_wp2_with fail
        refine hbg.out.mono ?_
        rintro e w2 ⟨v2, rfl, h2, hb2, hf2⟩
        have hch := chain_any _ _ _ 15 w2 h2 (Nat.le_refl _) (by rw [hlb.out]; omega)
        rw [show chainN 15 = 15 by decide] at hch
        have ho2 := ho.out.below hb2
        have hw2 := Lib.hid (bgo hb.out hb2)
        replace hch := Lib.hid hch
        dsimp only
        go_wp2_with fail
        refine hch.out.mono ?_
        rintro e w3 ⟨v3, rfl, h3, hb3, hf3⟩
        have ho3 := Lib.hid (ho2.below hb3)
        have hw3 := Lib.hid (bgo hw2.out hb3)
        have hl3 := Lib.hid (show acc.length + (chainH 15 bg).length ≤ 140737488355328 by rw [hlen.out, hlc.out]; omega)
        replace h3 := Lib.hid h3
        clear ho2 hb2 hb3 hbg hch h2 hw2 hb ho
        dsimp only
        go_wp2_with (at_builtin; refine wpList_app (by rfl) _ _ rfl w0.heap.size _ acc rfl ho3.out _ _ (chainH 15 bg) rfl h3.out hl3.out hw3.out.size ?_)
        intro v' w' hW2 hb2
        have hW2 := Lib.hid hW2
        have hb2 := Lib.hid hb2
        go_wp2_with fail
        go_roundw
        case rel => exact ⟨k + 1, by omega, by go_num, by rw [hst.out]; exact hW2.out, hw3.out.trans hb2.out⟩
        case measure => simp [intOf]; omega
      · have hk35 : k = 35 := by omega
        rw [hk35] at ho
        have hsh := short_any _ _ _ _ ho.out.sees (Nat.le_refl _) (by rw [otEnds_len]; omega)
        replace hsh := Lib.hid hsh
        replace hk35 := Lib.hid hk35
        go_wp2_with fail
        refine hsh.out.mono ?_
        rintro e w2 ⟨v2, rfl, h2, hb2, hf2⟩
        dsimp only
        go_wp2_with fail
        go_returns
        exact ⟨v2, by rw [hoc.out]; rfl, by rw [hpl.out]; exact h2, bgo hb.out hb2, hf2.mono hb.out.size⟩
  · have hpl : Hid (pubL seed i = []) := by show _ = _; rw [pubL, if_neg h0]
    have hoc := Lib.hid (Eq.refl (otC seed i))
    generalize hz : otC seed i = z at hv h0
    replace hv := Lib.hid hv
    replace hz := Lib.hid hz
    clear hu
    go_enter Tryz.func106, Tryz.ntmps106
    go_wp2_with fail
    refine hv.out.mono ?_
    rintro e w0 ⟨rfl, rfl⟩
    dsimp only
    go_wp2_with fail
    go_returns
    exact ⟨.slice none 0 0, by rw [hz.out]; rfl, by rw [hpl.out]; exact SeesB.nil _ _, Below.refl _ _, From.nil _⟩
set_option maxRecDepth 100000 in
theorem rotpublic_any (B : Nat) (u : Value) (seed : Bs) (i : Int) (w : World) (hu : SeesB w B u seed) (hB : B ≤ w.heap.size) :
    Calls Tryz.prog 68 #[u, .int .i64 i] w (PubPost seed i w) := by
  obtain ⟨A, c, rfl, hc1, hc2⟩ := hu.mk_
  have hv := rotvalid_any B _ seed i w hu
  by_cases h0 : otC seed i = 0
  · have hpl : Hid (pubL seed i = otPublic seed i.toNat) := by show _ = _; rw [pubL, if_pos h0]
    obtain ⟨hl, i0, i1⟩ := otC_ok h0
    have hoc := Lib.hid h0
    rw [h0] at hv
    obtain ⟨n, rfl⟩ := Int.eq_ofNat_of_zero_le i0
    rw [Int.toNat_natCast] at hpl
    rw [hl] at hc1 hu hv ⊢
    replace hu := Lib.hid hu
    replace hv := Lib.hid hv
    have hl' := Lib.hid hl
    clear h0 i0 hl
    go_enter Tryz.func68, Tryz.ntmps68
    go_wp2_with fail
    refine hv.out.mono ?_
    rintro e w0 ⟨rfl, rfl⟩
    dsimp only
    go_wp2_with fail
    refine wp_fresh (fun W => OwnB W w0.heap.size (.slice (some ⟨w0.heap.size, 0, none⟩) 0 0) [] ∧ Below w0.heap.size w0 W) ⟨own_made w0 [] (Nat.zero_le _) _ (Nat.le_refl _), (Below.refl _ _).alloc (Nat.le_refl _) _⟩ ?_
    rintro W1 ⟨ho, hb⟩
    replace ho := Lib.hid ho
    replace hb := Lib.hid hb
    clear hv
    go_loopw [7, 8] (fun r t wr => ∃ k : Nat, k ≤ 35 ∧ t = .int .i64 k ∧ Hid (OwnB wr w0.heap.size r (otEnds seed n k)) ∧ Hid (Below w0.heap.size w0 wr)) (fun _ t _ => 35 - (intOf t).toNat)
    case atStart => exact ⟨0, by omega, rfl, ho, hb⟩
    case round =>
      clear ho hb
      obtain ⟨k, hk, rfl, ho, hb⟩ := hrel
      by_cases hlt : k < 35
      · have i0 : (k : Int) < 35 := by omega
        have hst : Hid (otEnds seed n (k + 1) = otEnds seed n k ++ chainH 15 (otBegin seed n k)) := rfl
        have hlen := otEnds_len seed n k
        have hlc := chainH_len 15 (otBegin seed n k) (short_len _)
        have hlb : (otBegin seed n k).length = 16 := short_len _
        have hbg := rsecret_any B _ seed n k wr (hu.out.below (hb.out.mono hB)) (Nat.le_trans hB hb.out.size) hl'.out (by omega) hlt
        unfold SecretPost at hbg
        replace hbg := Lib.hid hbg
        generalize otEnds seed n k = acc at *
        generalize otBegin seed n k = bg at *
        replace hlen := Lib.hid hlen
        replace hlc := Lib.hid hlc
        replace hlb := Lib.hid hlb
        obtain ⟨Ar, cr, rfl, -, -⟩ := ho.out.sees.mk_
        go_wp2_with fail
        refine hbg.out.mono ?_
        rintro e w2 ⟨v2, rfl, h2, hb2, hf2⟩
        have hch := rchain_any _ _ _ 15 w2 h2 (Nat.le_refl _) (by rw [hlb.out]; omega)
        rw [show chainN 15 = 15 by decide] at hch
        have ho2 := ho.out.below hb2
        have hw2 := Lib.hid (bgo hb.out hb2)
        replace hch := Lib.hid hch
        dsimp only
        go_wp2_with fail
        refine hch.out.mono ?_
        rintro e w3 ⟨v3, rfl, h3, hb3, hf3⟩
        have ho3 := Lib.hid (ho2.below hb3)
        have hw3 := Lib.hid (bgo hw2.out hb3)
        have hl3 := Lib.hid (show acc.length + (chainH 15 bg).length ≤ 140737488355328 by rw [hlen.out, hlc.out]; omega)
        replace h3 := Lib.hid h3
        clear ho2 hb2 hb3 hbg hch h2 hw2 hb ho
        dsimp only
        go_wp2_with (at_builtin; refine wpList_app (by rfl) _ _ rfl w0.heap.size _ acc rfl ho3.out _ _ (chainH 15 bg) rfl h3.out hl3.out hw3.out.size ?_)
        intro v' w' hW2 hb2
        have hW2 := Lib.hid hW2
        have hb2 := Lib.hid hb2
        go_wp2_with fail
        go_roundw
        case rel => exact ⟨k + 1, by omega, by go_num, by rw [hst.out]; exact hW2.out, hw3.out.trans hb2.out⟩
        case measure => simp [intOf]; omega
      · have hk35 : k = 35 := by omega
        rw [hk35] at ho
        have hsh := rshort_any _ _ _ _ ho.out.sees (Nat.le_refl _) (by rw [otEnds_len]; omega)
        replace hsh := Lib.hid hsh
        replace hk35 := Lib.hid hk35
        go_wp2_with fail
        refine hsh.out.mono ?_
        rintro e w2 ⟨v2, rfl, h2, hb2, hf2⟩
        dsimp only
        go_wp2_with fail
        go_returns
        exact ⟨v2, by rw [hoc.out]; rfl, by rw [hpl.out]; exact h2, bgo hb.out hb2, hf2.mono hb.out.size⟩
  · have hpl : Hid (pubL seed i = []) := by show _ = _; rw [pubL, if_neg h0]
    have hoc := Lib.hid (Eq.refl (otC seed i))
    generalize hz : otC seed i = z at hv h0
    replace hv := Lib.hid hv
    replace hz := Lib.hid hz
    clear hu
    go_enter Tryz.func68, Tryz.ntmps68
    go_wp2_with fail
    refine hv.out.mono ?_
    rintro e w0 ⟨rfl, rfl⟩
    dsimp only
    go_wp2_with fail
    go_returns
    exact ⟨.slice none 0 0, by rw [hz.out]; rfl, by rw [hpl.out]; exact SeesB.nil _ _, Below.refl _ _, From.nil _⟩
end
section
open Go.RowKit
set_option linter.unusedVariables false
attribute [local go_sem ↓] Go.wp_at_zero Go.wp_at_succ
def leafH (l : Bs) : Bs := sha (0 :: l)
def nodeH (a b : Bs) : Bs := sha (1 :: (a ++ b))
set_option maxRecDepth 100000 in
theorem leaf_any (B : Nat) (u : Value) (l : Bs) (w : World) (hu : SeesB w B u l) (hB : B ≤ w.heap.size) (hl : l.length ≤ 1073741824) :
    Calls Tryz.prog 116 #[u] w (Gives (leafH l) w) := by
  obtain ⟨A, c, rfl, hc1, hc2⟩ := hu.mk_
  replace hu := Lib.hid hu
  go_enter Tryz.func116, Tryz.ntmps116
  go_wp2_with fail
  have hb2 := balloc w (.cells #[.int .u8 0] 5)
  have h2 := one_byte w 0 0 rfl
  have hu2 := hu.out.below (hb2.mono hB)
  have hsz1 : (w.alloc (.cells #[.int .u8 0] 5)).heap.size = w.heap.size + 1 := World.size_alloc _ _
  rw [← hsz1]
  have hall := hb2
  generalize w.alloc (.cells #[.int .u8 0] 5) = w2 at *
  generalize hg1 : w.heap.size = g1 at hu2 h2 hall ⊢
  have hl3 := seesL_lit w2 23 (show SeesAll w2 w2.heap.size [.slice (some ⟨g1, 0, none⟩) 1 1, .slice A l.length c] [[0], l] from ⟨h2.sees, hu2.more (by have := hb2.size; omega), trivial⟩) (by simp [maxLen])
  have hfl : [[0], l].flatten = (0 : UInt8) :: l := by simp
  refine (join_any _ _ _ _ hl3 (Nat.le_refl _) (by rw [hfl]; simp; omega)).mono ?_
  rintro e w3 ⟨v3, rfl, h3, hb3⟩
  rw [hfl] at h3
  have hw3 := bgo (bgo hb2 (balloc w2 _)) hb3
  dsimp only
  go_wp2_with fail
  refine (sum_any _ _ _ _ h3.sees (Nat.le_refl _) (by simp; omega)).mono ?_
  rintro e w4 ⟨v4, rfl, h4, hb4⟩
  dsimp only
  go_wp2_with fail
  go_ret
  exact ⟨v4, rfl, h4.mono (hw3.size), bgo hw3 hb4⟩
set_option maxRecDepth 100000 in
theorem node_any (B : Nat) (u u2 : Value) (l l2 : Bs) (w : World) (hu : SeesB w B u l) (huu : SeesB w B u2 l2) (hB : B ≤ w.heap.size) (hl : l.length ≤ 1073741824) (hll : l2.length ≤ 1073741824) :
    Calls Tryz.prog 126 #[u, u2] w (Gives (nodeH l l2) w) := by
  obtain ⟨A, c, rfl, hc1, hc2⟩ := hu.mk_
  obtain ⟨AA, cc, rfl, hc3, hc4⟩ := huu.mk_
  replace hu := Lib.hid hu
  replace huu := Lib.hid huu
  go_enter Tryz.func126, Tryz.ntmps126
  go_wp2_with fail
  have hb2 := balloc w (.cells #[.int .u8 1] 5)
  have h2 := one_byte w 1 1 rfl
  have hu2 := hu.out.below (hb2.mono hB)
  have hu3 := huu.out.below (hb2.mono hB)
  have hsz1 : (w.alloc (.cells #[.int .u8 1] 5)).heap.size = w.heap.size + 1 := World.size_alloc _ _
  rw [← hsz1]
  have hall := hb2
  generalize w.alloc (.cells #[.int .u8 1] 5) = w2 at *
  generalize hg1 : w.heap.size = g1 at hu2 hu3 h2 hall ⊢
  have hl3 := seesL_lit w2 23 (show SeesAll w2 w2.heap.size [.slice (some ⟨g1, 0, none⟩) 1 1, .slice A l.length c, .slice AA l2.length cc] [[1], l, l2] from ⟨h2.sees, hu2.more (by have := hb2.size; omega), hu3.more (by have := hb2.size; omega), trivial⟩) (by simp [maxLen])
  have hfl : [[1], l, l2].flatten = (1 : UInt8) :: (l ++ l2) := by simp
  refine (join_any _ _ _ _ hl3 (Nat.le_refl _) (by rw [hfl]; simp; omega)).mono ?_
  rintro e w3 ⟨v3, rfl, h3, hb3⟩
  rw [hfl] at h3
  have hw3 := bgo (bgo hb2 (balloc w2 _)) hb3
  dsimp only
  go_wp2_with fail
  refine (sum_any _ _ _ _ h3.sees (Nat.le_refl _) (by simp; omega)).mono ?_
  rintro e w4 ⟨v4, rfl, h4, hb4⟩
  dsimp only
  go_wp2_with fail
  go_ret
  exact ⟨v4, rfl, h4.mono (hw3.size), bgo hw3 hb4⟩
set_option maxRecDepth 100000 in
theorem rleaf_any (B : Nat) (u : Value) (l : Bs) (w : World) (hu : SeesB w B u l) (hB : B ≤ w.heap.size) (hl : l.length ≤ 1073741824) :
    Calls Tryz.prog 100 #[u] w (Gives (leafH l) w) := by
  obtain ⟨A, c, rfl, hc1, hc2⟩ := hu.mk_
  replace hu := Lib.hid hu
  go_enter Tryz.func100, Tryz.ntmps100
  go_wp2_with fail
  have hb2 := balloc w (.cells #[.int .u8 0] 5)
  have h2 := one_byte w 0 0 rfl
  have hu2 := hu.out.below (hb2.mono hB)
  have hsz1 : (w.alloc (.cells #[.int .u8 0] 5)).heap.size = w.heap.size + 1 := World.size_alloc _ _
  rw [← hsz1]
  have hall := hb2
  generalize w.alloc (.cells #[.int .u8 0] 5) = w2 at *
  generalize hg1 : w.heap.size = g1 at hu2 h2 hall ⊢
  have hl3 := seesL_lit w2 23 (show SeesAll w2 w2.heap.size [.slice (some ⟨g1, 0, none⟩) 1 1, .slice A l.length c] [[0], l] from ⟨h2.sees, hu2.more (by have := hb2.size; omega), trivial⟩) (by simp [maxLen])
  have hfl : [[0], l].flatten = (0 : UInt8) :: l := by simp
  refine (rjoin_any _ _ _ _ hl3 (Nat.le_refl _) (by rw [hfl]; simp; omega)).mono ?_
  rintro e w3 ⟨v3, rfl, h3, hb3⟩
  rw [hfl] at h3
  have hw3 := bgo (bgo hb2 (balloc w2 _)) hb3
  dsimp only
  go_wp2_with fail
  refine (rsum_any _ _ _ _ h3.sees (Nat.le_refl _) (by simp; omega)).mono ?_
  rintro e w4 ⟨v4, rfl, h4, hb4⟩
  dsimp only
  go_wp2_with fail
  go_ret
  exact ⟨v4, rfl, h4.mono (hw3.size), bgo hw3 hb4⟩
set_option maxRecDepth 100000 in
theorem rnode_any (B : Nat) (u u2 : Value) (l l2 : Bs) (w : World) (hu : SeesB w B u l) (huu : SeesB w B u2 l2) (hB : B ≤ w.heap.size) (hl : l.length ≤ 1073741824) (hll : l2.length ≤ 1073741824) :
    Calls Tryz.prog 102 #[u, u2] w (Gives (nodeH l l2) w) := by
  obtain ⟨A, c, rfl, hc1, hc2⟩ := hu.mk_
  obtain ⟨AA, cc, rfl, hc3, hc4⟩ := huu.mk_
  replace hu := Lib.hid hu
  replace huu := Lib.hid huu
  go_enter Tryz.func102, Tryz.ntmps102
  go_wp2_with fail
  have hb2 := balloc w (.cells #[.int .u8 1] 5)
  have h2 := one_byte w 1 1 rfl
  have hu2 := hu.out.below (hb2.mono hB)
  have hu3 := huu.out.below (hb2.mono hB)
  have hsz1 : (w.alloc (.cells #[.int .u8 1] 5)).heap.size = w.heap.size + 1 := World.size_alloc _ _
  rw [← hsz1]
  have hall := hb2
  generalize w.alloc (.cells #[.int .u8 1] 5) = w2 at *
  generalize hg1 : w.heap.size = g1 at hu2 hu3 h2 hall ⊢
  have hl3 := seesL_lit w2 23 (show SeesAll w2 w2.heap.size [.slice (some ⟨g1, 0, none⟩) 1 1, .slice A l.length c, .slice AA l2.length cc] [[1], l, l2] from ⟨h2.sees, hu2.more (by have := hb2.size; omega), hu3.more (by have := hb2.size; omega), trivial⟩) (by simp [maxLen])
  have hfl : [[1], l, l2].flatten = (1 : UInt8) :: (l ++ l2) := by simp
  refine (rjoin_any _ _ _ _ hl3 (Nat.le_refl _) (by rw [hfl]; simp; omega)).mono ?_
  rintro e w3 ⟨v3, rfl, h3, hb3⟩
  rw [hfl] at h3
  have hw3 := bgo (bgo hb2 (balloc w2 _)) hb3
  dsimp only
  go_wp2_with fail
  refine (rsum_any _ _ _ _ h3.sees (Nat.le_refl _) (by simp; omega)).mono ?_
  rintro e w4 ⟨v4, rfl, h4, hb4⟩
  dsimp only
  go_wp2_with fail
  go_ret
  exact ⟨v4, rfl, h4.mono (hw3.size), bgo hw3 hb4⟩
end
section
open Go.RowKit
set_option linter.unusedVariables false
attribute [local go_sem ↓] Go.wp_at_zero Go.wp_at_succ
def splitN (n : Nat) : Nat := 2 ^ (n - 1).log2
theorem splitN_of (n j : Nat) (h2 : 2 ≤ n) (h0 : 2 ^ j < n) (h1 : n ≤ 2 * 2 ^ j) : splitN n = 2 ^ j := by
  unfold splitN
  have h := (Nat.log2_eq_iff (n := n - 1) (k := j) (by omega)).2 ⟨by omega, by rw [Nat.pow_succ]; omega⟩
  rw [h]
theorem splitN_lt (n : Nat) (h2 : 2 ≤ n) : splitN n < n ∧ 0 < splitN n ∧ n ≤ 2 * splitN n := by
  unfold splitN
  have h := (Nat.log2_eq_iff (n := n - 1) (k := (n - 1).log2) (by omega)).1 rfl
  rw [Nat.pow_succ] at h
  exact ⟨by omega, Nat.pow_pos (by omega), by omega⟩
theorem split_any (n : Nat) (w : World) (h2 : 2 ≤ n) (hn : n ≤ 1099511627776) :
    Calls Tryz.prog 101 #[.int .i64 (n : Int)] w fun e w' => e = .returned (.int .i64 (splitN n : Int)) ∧ w' = w := by
  go_enter Tryz.func101, Tryz.ntmps101
  go_wp2_with fail
  go_loopw [3] (fun t wr => ∃ j k : Nat, Hid (k = 2 ^ j) ∧ k < n ∧ t = .int .i64 (k : Int) ∧ wr = w) (fun t _ => n - (intOf t).toNat)
  case atStart => exact ⟨0, 1, rfl, by omega, rfl, rfl⟩
  case round =>
    obtain ⟨j, k, hk, hlt, rfl, rfl⟩ := hrel
    have hk0 : 0 < k := by rw [hk.out]; exact Nat.pow_pos (by omega)
    by_cases h : 2 * k < n
    · have i0 : 2 * (k : Int) < (n : Int) := by omega
      go_wp2_with fail
      go_roundw
      case rel => exact ⟨j + 1, 2 * k, by have := hk.out; show _ = _; rw [Nat.pow_succ]; omega, h, by go_num, trivial⟩
      case measure => simp [intOf]; omega
    · have i0 : ¬ (2 * (k : Int) < (n : Int)) := by omega
      have hs := splitN_of n j h2 (by rw [← hk.out]; exact hlt) (by rw [← hk.out]; omega)
      rw [← hk.out] at hs
      replace hs := Lib.hid hs
      go_wp2_with fail
      go_ret
      exact ⟨ret_int (by rw [hs.out]), rfl⟩
end
section
open Go.RowKit
set_option linter.unusedVariables false
set_option maxHeartbeats 4000000 in
set_option maxRecDepth 100000 in
theorem len64_any (x : Int) (w : World) (h0 : 0 ≤ x) (h1 : x < 65536) :
    Calls Tryz.prog 142 #[.int .u64 x] w fun e w' => e = .returned (.int .i64 (Lib.bitLen x.toNat)) ∧ w' = w := by
  have t9 : Tryz.prog.underlying 9 = some .string := Tryz.underlying9
  by_cases hx : x < 256
  · have hix : ∀ W, (Instr.index 9 (.string Lib.len8tab) (.int .u8 x)).run Tryz.prog W = .ok (.int .u8 (Lib.len8 x)) W := fun W => Lib.run_index_len8tab W _ _ _ t9 h0 (by omega)
    go_enter Tryz.func142, Tryz.ntmps142
    go_wp2
    go_ret
    refine ⟨congrArg Ending.returned (congrArg (Value.int IntKind.i64) ?_), rfl⟩
    have l := Lib.bitLen_le8' x h0 (by omega)
    rw [Lib.len8_of x h0 (by omega)]
    unfold wrap64; omega
  · have hix : ∀ W, (Instr.index 9 (.string Lib.len8tab) (.int .u8 (x / 256))).run Tryz.prog W = .ok (.int .u8 (Lib.len8 (x / 256))) W := fun W => Lib.run_index_len8tab W _ _ _ t9 (by omega) (by omega)
    go_enter Tryz.func142, Tryz.ntmps142
    go_wp2
    go_ret
    refine ⟨congrArg Ending.returned (congrArg (Value.int IntKind.i64) ?_), rfl⟩
    have l := Lib.bitLen_le8' (x / 256) (by omega) (by omega)
    have s := Lib.bitLen_shift8 x.toNat (by omega) (by omega)
    rw [Lib.len8_of (x / 256) (by omega) (by omega), s, show x.toNat / 256 = (x / 256).toNat by omega]
    unfold wrap64; omega
theorem len_any (x : Int) (w : World) (h0 : 0 ≤ x) (h1 : x < 65536) :
    Calls Tryz.prog 136 #[.int .u64 x] w fun e w' => e = .returned (.int .i64 (Lib.bitLen x.toNat)) ∧ w' = w := by
  go_enter Tryz.func136, Tryz.ntmps136
  go_wp2_with (go_at_call 142; refine (len64_any x _ h0 h1).mono ?_; rintro e w' ⟨rfl, rfl⟩)
  go_ret
  exact ⟨rfl, rfl⟩
theorem bitLen_log (x : Nat) (h : 1 ≤ x) (hx : x < 2 ^ 64) : Lib.bitLen x = x.log2 + 1 := by
  induction x using Nat.strongRecOn with
  | ind x ih =>
    rw [Lib.bitLen_half x (by omega) hx, Nat.log2_def]
    by_cases h2 : 2 ≤ x
    · rw [if_pos h2, ih (x / 2) (by omega) (by omega) (by omega)]; omega
    · have : x = 1 := by omega
      subst this
      decide
theorem half_any (n : Nat) (w : World) (h2 : 2 ≤ n) (hn : n ≤ 1024) :
    Calls Tryz.prog 130 #[.int .i64 (n : Int)] w fun e w' => e = .returned (.int .i64 (splitN n : Int)) ∧ w' = w := by
  have e0 : IntKind.i64.wrap ((n : Int) - 1) = ((n - 1 : Nat) : Int) := by rw [IntKind.wrap_i64]; omega
  have e1 : IntKind.u64.wrap (((n - 1 : Nat) : Int)) = ((n - 1 : Nat) : Int) := by rw [IntKind.wrap_u64]; omega
  have hl := Lib.hid (len_any ((n - 1 : Nat) : Int) w (by omega) (by omega))
  have hlog := Lib.hid (bitLen_log (n - 1) (by omega) (by omega))
  go_enter Tryz.func130, Tryz.ntmps130
  go_wp2_with fail
  refine hl.out.mono ?_
  rintro e w' ⟨rfl, rfl⟩
  rw [Int.toNat_natCast, hlog.out]
  have hk : (n - 1).log2 ≤ 9 := by
    have := (Nat.log2_eq_iff (n := n - 1) (k := (n - 1).log2) (by omega)).1 rfl
    rcases Nat.lt_or_ge 9 (n - 1).log2 with h | h
    · have h3 : 2 ^ 10 ≤ 2 ^ (n - 1).log2 := Nat.pow_le_pow_right (by omega) h
      omega
    · exact h
  have hs : Hid (splitN n = 2 ^ (n - 1).log2) := rfl
  generalize (n - 1).log2 = k at hk hs
  have k0 : IntKind.i64.wrap (((k + 1 : Nat) : Int) - 1) = (k : Int) := by rw [IntKind.wrap_i64]; omega
  dsimp only
  rcases (by omega : k = 0 ∨ k = 1 ∨ k = 2 ∨ k = 3 ∨ k = 4 ∨ k = 5 ∨ k = 6 ∨ k = 7 ∨ k = 8 ∨ k = 9) with rfl | rfl | rfl | rfl | rfl | rfl | rfl | rfl | rfl | rfl
  all_goals
    go_wp2_with fail
    go_ret
    exact ⟨ret_int (by rw [hs.out]; decide), rfl⟩
end
section
open Go.RowKit
set_option linter.unusedVariables false
attribute [local go_sem ↓] Go.wp_at_zero Go.wp_at_succ
/-- The root of the tree over hashes. -/
def rootG (hs : List Bs) : Bs :=
  if h : 2 ≤ hs.length then nodeH (rootG (hs.take (splitN hs.length))) (rootG (hs.drop (splitN hs.length)))
  else match hs with
    | [] => sha []
    | x :: _ => x
termination_by hs.length
decreasing_by
  · have := splitN_lt hs.length h; rw [List.length_take]; omega
  · have := splitN_lt hs.length h; rw [List.length_drop]; omega
theorem rootG_two (hs : List Bs) (h : 2 ≤ hs.length) : rootG hs = nodeH (rootG (hs.take (splitN hs.length))) (rootG (hs.drop (splitN hs.length))) := by
  rw [rootG, dif_pos h]
theorem rootG_nil : rootG [] = sha [] := by rw [rootG]; rfl
theorem rootG_one (x : Bs) : rootG [x] = x := by rw [rootG]; rfl
theorem SeesL.cut {w : World} {B : Nat} {A : Option Addr} {n c a b : Nat} {ls : List Bs} (h : SeesL w B (.slice A n c) ls) (hab : a ≤ b) (hb : b ≤ ls.length) :
    SeesL w B (.slice (cutA A c a 1) (b - a) (c - a)) ((ls.drop a).take (b - a)) := by
  obtain ⟨vs, hs, hv⟩ := h
  have hn : n = ls.length := by
    obtain ⟨_, A', c', e, _⟩ := hs
    injection e
  subst hn
  have h1 := Sees.cut (l := a) (h' := b) hs hab hb
  rw [Nat.mul_one, Nat.mul_one] at h1
  have hl : ((ls.drop a).take (b - a)).length = b - a := by rw [List.length_take, List.length_drop]; omega
  refine ⟨(vs.drop a).take (b - a), by rw [hl]; exact h1, fun k hk => ?_⟩
  rw [hl] at hk
  obtain ⟨v, h2, h3⟩ := hv (a + k) (by omega)
  refine ⟨v, by rw [List.getElem?_take, if_pos hk, List.getElem?_drop]; exact h2, ?_⟩
  rw [List.getD_eq_getElem?_getD, List.getElem?_take, if_pos hk, List.getElem?_drop, ← List.getD_eq_getElem?_getD]
  exact h3
end
section
open Go.RowKit
set_option linter.unusedVariables false
attribute [local go_sem ↓] Go.wp_at_zero Go.wp_at_succ
theorem cutA_zero (b o c s : Nat) : cutA (some ⟨b, o, none⟩) c 0 s = some ⟨b, o, none⟩ := by
  unfold cutA
  split
  · rfl
  · rw [Option.map_some, Nat.zero_mul, add_zero', Nat.add_zero]
theorem nodeH_len (a b : Bs) : (nodeH a b).length = 32 := sha_len _
theorem rootG_len (hs : List Bs) (h : ∀ x ∈ hs, x.length = 32) : (rootG hs).length = 32 := by
  by_cases h2 : 2 ≤ hs.length
  · rw [rootG_two hs h2]; exact nodeH_len _ _
  · match hs, h with
    | [], _ => rw [rootG_nil]; exact sha_len _
    | [x], h => rw [rootG_one]; exact h x (by simp)
    | _ :: _ :: _, _ => simp at h2
theorem leafs_len (ls : List Bs) : ∀ x ∈ ls.map leafH, x.length = 32 := by
  intro x hx
  obtain ⟨y, _, rfl⟩ := List.mem_map.1 hx
  exact sha_len _
set_option maxRecDepth 100000 in
theorem rroot_any (m : Nat) : ∀ (ls : List Bs) (B : Nat) (u : Value) (w : World), ls.length ≤ m → SeesL w B u ls → B ≤ w.heap.size → ls.length ≤ 1024 → (∀ l ∈ ls, l.length ≤ 1048576) →
    Calls Tryz.prog 67 #[u] w (Gives (rootG (ls.map leafH)) w) := by
  induction m with
  | zero =>
    intro ls B u w hm hu hB hn hl
    obtain rfl : ls = [] := List.eq_nil_of_length_eq_zero (by omega)
    obtain ⟨A, c, rfl, hc1, hc2⟩ := hu.mk_
    have hs := Lib.hid (rsum_any B (.slice none 0 0) [] w (SeesB.nil _ _) hB (by simp))
    go_enter Tryz.func67, Tryz.ntmps67
    go_wp2_with fail
    refine hs.out.mono ?_
    rintro e w1 ⟨v, rfl, h1, hb1⟩
    dsimp only
    go_wp2_with fail
    go_ret
    exact ⟨v, rfl, by rw [List.map_nil, rootG_nil]; exact h1, hb1⟩
  | succ m ih =>
    intro ls B u w hm hu hB hn hl
    by_cases h0 : ls.length ≤ m
    · exact ih ls B u w h0 hu hB hn hl
    · have hlen : ls.length = m + 1 := by omega
      by_cases hm0 : m = 0
      · subst hm0
        obtain ⟨A, c, rfl, hc1, hc2⟩ := hu.mk_
        match ls, hlen, hu, hl with
        | [x], _, hu, hl =>
          obtain ⟨b, o, rfl, hb, hcell⟩ := hu.at_ (by simp)
          obtain ⟨A', c', x0, g1, g2, hsee⟩ := hcell 0 (by simp)
          rw [Nat.add_zero] at x0
          have hs := Lib.hid (rleaf_any B _ _ w hsee hB (by have := hl x (by simp); simp; omega))
          clear hcell hsee hu ih
          simp only [List.getD_cons_zero, List.length_cons, List.length_nil] at *
          go_enter Tryz.func67, Tryz.ntmps67
          go_wp2_with fail
          refine hs.out.mono ?_
          rintro e w1 ⟨v, rfl, h1, hb1⟩
          dsimp only
          go_wp2_with fail
          go_ret
          exact ⟨v, rfl, by rw [List.map_cons, List.map_nil, rootG_one]; exact h1, hb1⟩
      · obtain ⟨A, c, rfl, hc1, hc2⟩ := hu.mk_
        have h2 : 2 ≤ ls.length := by omega
        obtain ⟨k1, k2, k3⟩ := splitN_lt ls.length h2
        have hsp := Lib.hid (split_any ls.length w h2 (by omega))
        have hroot : Hid (rootG (ls.map leafH) = nodeH (rootG ((ls.take (splitN ls.length)).map leafH)) (rootG ((ls.drop (splitN ls.length)).map leafH))) := by
          show _ = _
          rw [rootG_two _ (by rw [List.length_map]; exact h2), List.length_map, List.map_take, List.map_drop]
        generalize splitN ls.length = k at *
        obtain ⟨b, o, rfl, hbB, -⟩ := hu.at_ (by omega)
        have c1 := SeesL.cut (a := 0) (b := k) hu (by omega) (by omega)
        have c2 := SeesL.cut (a := k) (b := ls.length) hu (by omega) (Nat.le_refl _)
        rw [cutA_zero, Nat.sub_zero, Nat.sub_zero, List.drop_zero] at c1
        rw [List.take_of_length_le (by rw [List.length_drop]; omega)] at c2
        have r2 := run_cut_from (P := Tryz.prog) 35 Tryz.underlying35 1 slice_size (some ⟨b, o, none⟩) ls.length c .i64 (k : Int) (by omega) (by omega)
        rw [Int.toNat_natCast] at r2
        generalize cutA (some ⟨b, o, none⟩) c k 1 = A2 at r2 c2
        have i1 := fun W h => ih (ls.take k) B _ W (by rw [List.length_take]; omega) (SeesL.below c1 (w' := W) h)
        have l1 : ∀ x ∈ ls.take k, x.length ≤ 1048576 := fun x hx => hl x (List.mem_of_mem_take hx)
        have l2 : ∀ x ∈ ls.drop k, x.length ≤ 1048576 := fun x hx => hl x (List.mem_of_mem_drop hx)
        have n1 : (ls.take k).length ≤ m := by rw [List.length_take]; omega
        have n2 : (ls.drop k).length ≤ m := by rw [List.length_drop]; omega
        have g1 := Lib.hid (ih (ls.take k) B _ w.drew n1 (SeesL.below c1 (Below.refl B w).drew) hB (by omega) l1)
        have g2 := Lib.hid (fun (W : World) (hbW : Below w.heap.size w W) => ih (ls.drop k) B _ W n2 (SeesL.below c2 (hbW.mono hB)) (Nat.le_trans hB hbW.size) (by omega) l2)
        have j0 : (0 : Int) ≤ (k : Int) := by omega
        have j1 : (k : Int) ≤ (c : Int) := by omega
        have j2 : (k : Int) ≤ (ls.length : Int) := by omega
        have j3 : ¬ ((ls.length : Int) = 0) := by omega
        have j4 : ¬ ((ls.length : Int) = 1) := by omega
        have hlm : Hid (ls.length = m + 1) := hlen
        clear ih i1 c1 c2 hu hlen
        go_enter Tryz.func67, Tryz.ntmps67
        go_wp2_with fail
        refine hsp.out.mono ?_
        rintro e w0 ⟨rfl, rfl⟩
        dsimp only
        go_wp2_with fail
        go_region_held3 (fun W' : World => True) (trivial)
          (first
            | (go_at_call 102; refine (rnode_any w2.heap.size _ _ _ _ w2 (h1.below hb2).sees h2'.sees (Nat.le_refl _) (by rw [rootG_len _ (leafs_len _)]; omega) (by rw [rootG_len _ (leafs_len _)]; omega)).mono ?_; rintro e w3 ⟨v3, rfl, h3, hb3⟩)
            | (go_at_call 67; have _h := hb1; clear _h; refine (g2.out _ (bgo (bdrew _) hb1)).mono ?_; rintro e w2 ⟨v2, rfl, h2', hb2⟩)
            | (go_at_call 67; refine g1.out.mono ?_; rintro e w1 ⟨v1, rfl, h1, hb1⟩))
        all_goals
          go_wp2_with fail
          go_ret
          exact ⟨v3, rfl, by rw [hroot.out]; exact h3.mono (bgo (bgo (bdrew _) hb1) hb2).size, bgo (bgo (bgo (bdrew _) hb1) hb2) hb3⟩
end
section
open Go.RowKit
set_option linter.unusedVariables false
attribute [local go_sem ↓] Go.wp_at_zero Go.wp_at_succ
def RootPost (ls : List Bs) (w : World) (e : Ending) (w' : World) : Prop :=
  ∃ v, e = .returned (.tuple #[v, .int .i64 0]) ∧ OwnB w' w.heap.size v (rootG (ls.map leafH)) ∧ Below w.heap.size w w'
theorem rroot_top (ls : List Bs) (B : Nat) (u : Value) (w : World) (hu : SeesL w B u ls) (hB : B ≤ w.heap.size) (hn : ls.length ≤ 1024) (hl : ∀ l ∈ ls, l.length ≤ 1048576) :
    Calls Tryz.prog 32 #[u] w (RootPost ls w) := by
  have hs := Lib.hid (rroot_any _ ls B u w (Nat.le_refl _) hu hB hn hl)
  obtain ⟨A, c, rfl, hc1, hc2⟩ := hu.mk_
  have j0 : ¬ ((1024 : Int) < (ls.length : Int)) := by omega
  clear hu hl
  go_enter Tryz.func32, Tryz.ntmps32
  go_wp2_with fail
  refine hs.out.mono ?_
  rintro e w1 ⟨v, rfl, h1, hb1⟩
  dsimp only
  go_wp2_with fail
  go_returns
  exact ⟨v, rfl, h1, hb1⟩
theorem hashes_size (w : World) : (sizeOf 23).run Tryz.prog w = .ok 1 w := slice_size w
def DividePost (A : Option Addr) (n c : Nat) (w : World) (e : Ending) (w' : World) : Prop :=
  e = .returned (.tuple #[.slice A (splitN n) c, .slice (cutA A c (splitN n) 1) (n - splitN n) (c - splitN n)]) ∧ ∃ k, w' = w.drewN k
set_option maxRecDepth 100000 in
theorem divide_any (A : Option Addr) (n c : Nat) (w : World) (h2 : 2 ≤ n) (hn : n ≤ 1024) (hc : n ≤ c) (hm : c ≤ maxLen) :
    Calls Tryz.prog 117 #[.slice A n c] w (DividePost A n c w) := by
  obtain ⟨k1, k2, k3⟩ := splitN_lt n h2
  have hh := Lib.hid (half_any n w h2 hn)
  unfold DividePost
  generalize splitN n = k at *
  have r2 := run_cut_from (P := Tryz.prog) 125 Tryz.underlying125 1 hashes_size A n c .i64 (k : Int) (by omega) (by omega)
  rw [Int.toNat_natCast] at r2
  generalize cutA A c k 1 = A2 at r2 ⊢
  have j0 : (0 : Int) ≤ (k : Int) := by omega
  have j1 : (k : Int) ≤ (c : Int) := by omega
  have j2 : (k : Int) ≤ (n : Int) := by omega
  go_enter Tryz.func117, Tryz.ntmps117
  go_wp2_with fail
  refine hh.out.mono ?_
  rintro e w0 ⟨rfl, rfl⟩
  dsimp only
  go_wp2_with fail
  go_quiet (fail)
  go_wp2_with fail
  go_returns
  exact ⟨rfl, _, rfl⟩
end
section
open Go.RowKit
set_option linter.unusedVariables false
attribute [local go_sem ↓] Go.wp_at_zero Go.wp_at_succ
set_option maxRecDepth 100000 in
theorem root_any (m : Nat) : ∀ (ls : List Bs) (B : Nat) (u : Value) (w : World), ls.length ≤ m → SeesL w B u ls → B ≤ w.heap.size → ls.length ≤ 1024 → (∀ l ∈ ls, l.length = 32) →
    Calls Tryz.prog 105 #[u] w (Gives (rootG ls) w) := by
  induction m with
  | zero =>
    intro ls B u w hm hu hB hn hl
    obtain rfl : ls = [] := List.eq_nil_of_length_eq_zero (by omega)
    obtain ⟨A, c, rfl, hc1, hc2⟩ := hu.mk_
    have hs := Lib.hid (sum_any B (.slice none 0 0) [] w (SeesB.nil _ _) hB (by simp))
    go_enter Tryz.func105, Tryz.ntmps105
    go_wp2_with fail
    refine hs.out.mono ?_
    rintro e w1 ⟨v, rfl, h1, hb1⟩
    dsimp only
    go_wp2_with fail
    go_ret
    exact ⟨v, rfl, by rw [rootG_nil]; exact h1, hb1⟩
  | succ m ih =>
    intro ls B u w hm hu hB hn hl
    by_cases h0 : ls.length ≤ m
    · exact ih ls B u w h0 hu hB hn hl
    · have hlen : ls.length = m + 1 := by omega
      by_cases hm0 : m = 0
      · subst hm0
        obtain ⟨A, c, rfl, hc1, hc2⟩ := hu.mk_
        match ls, hlen, hu, hl with
        | [x], _, hu, hl =>
          obtain ⟨b, o, rfl, hb, hcell⟩ := hu.at_ (by simp)
          obtain ⟨A', c', x0, g1, g2, hsee⟩ := hcell 0 (by simp)
          rw [Nat.add_zero] at x0
          have hs := Lib.hid (clone_any B _ _ w hsee hB (by have := hl x (by simp); simp; omega))
          clear hcell hsee hu ih hl
          simp only [List.getD_cons_zero, List.length_cons, List.length_nil] at *
          go_enter Tryz.func105, Tryz.ntmps105
          go_wp2_with fail
          refine hs.out.mono ?_
          rintro e w1 ⟨v, rfl, h1, hb1⟩
          dsimp only
          go_wp2_with fail
          go_ret
          exact ⟨v, rfl, by rw [rootG_one]; exact h1, hb1⟩
      · obtain ⟨A, c, rfl, hc1, hc2⟩ := hu.mk_
        have h2 : 2 ≤ ls.length := by omega
        obtain ⟨k1, k2, k3⟩ := splitN_lt ls.length h2
        have hdv := divide_any A ls.length c w h2 hn hc1 hc2
        unfold DividePost at hdv
        have hroot : Hid (rootG ls = nodeH (rootG (ls.take (splitN ls.length))) (rootG (ls.drop (splitN ls.length)))) := rootG_two ls h2
        generalize splitN ls.length = k at *
        obtain ⟨b, o, rfl, hbB, -⟩ := hu.at_ (by omega)
        have c1 := SeesL.cut (a := 0) (b := k) hu (by omega) (by omega)
        have c2 := SeesL.cut (a := k) (b := ls.length) hu (by omega) (Nat.le_refl _)
        rw [cutA_zero, Nat.sub_zero, Nat.sub_zero, List.drop_zero] at c1
        rw [List.take_of_length_le (by rw [List.length_drop]; omega)] at c2
        generalize cutA (some ⟨b, o, none⟩) c k 1 = A2 at hdv c2
        have l1 : ∀ x ∈ ls.take k, x.length = 32 := fun x hx => hl x (List.mem_of_mem_take hx)
        have l2 : ∀ x ∈ ls.drop k, x.length = 32 := fun x hx => hl x (List.mem_of_mem_drop hx)
        have n1 : (ls.take k).length ≤ m := by rw [List.length_take]; omega
        have n2 : (ls.drop k).length ≤ m := by rw [List.length_drop]; omega
        have g1 := Lib.hid (fun q => ih (ls.take k) B _ (w.drewN q) n1 (SeesL.below c1 (below_drewN (Below.refl B w) q)) hB (by omega) l1)
        have g2 := Lib.hid (fun (W : World) (hbW : Below w.heap.size w W) => ih (ls.drop k) B _ W n2 (SeesL.below c2 (hbW.mono hB)) (Nat.le_trans hB hbW.size) (by omega) l2)
        have q1 := rootG_len _ l1
        have q2 := rootG_len _ l2
        have j3 : ¬ ((ls.length : Int) = 0) := by omega
        have j4 : ¬ ((ls.length : Int) = 1) := by omega
        have hlm : Hid (ls.length = m + 1) := hlen
        replace hdv := Lib.hid hdv
        clear ih c1 c2 hu hlen
        go_enter Tryz.func105, Tryz.ntmps105
        go_wp2_with fail
        refine hdv.out.mono ?_
        rintro e w0 ⟨rfl, q, rfl⟩
        dsimp only
        go_wp2_with fail
        refine (g1.out q).mono ?_
        rintro e w1 ⟨v1, rfl, h1, hb1⟩
        have hb1' : Below w.heap.size w w1 := (below_drewN (Below.refl _ _) q).trans hb1
        dsimp only
        go_wp2_with fail
        refine (g2.out w1 hb1').mono ?_
        rintro e w2 ⟨v2, rfl, h2', hb2⟩
        dsimp only
        go_wp2_with fail
        refine (node_any w2.heap.size _ _ _ _ w2 (h1.below hb2).sees h2'.sees (Nat.le_refl _) (by omega) (by omega)).mono ?_
        rintro e w3 ⟨v3, rfl, h3, hb3⟩
        dsimp only
        go_wp2_with fail
        go_ret
        exact ⟨v3, rfl, by rw [hroot.out]; exact h3.mono (bgo hb1' hb2).size, bgo (bgo hb1' hb2) hb3⟩
end
section
open Go.RowKit
set_option linter.unusedVariables false
attribute [local go_sem ↓] Go.wp_at_zero Go.wp_at_succ
theorem make_hashes (n : Nat) (hn : n ≤ 1048576) (w : World) : (Instr.makeSlice 125 (.int .i64 (n : Int)) (.int .i64 (n : Int))).run Tryz.prog w = .ok (.slice (some ⟨w.heap.size, 0, none⟩) n n) (w.alloc (.cells (List.replicate n (Value.slice none 0 0)).toArray 23)) := by
  obtain ⟨i, hi, hz, hs, hb⟩ := info_parts slice_info
  have h := run_make (P := Tryz.prog) w 125 23 i (.slice none 0 0) Tryz.underlying125 hi hz .i64 .i64 n n (by omega) (by omega) (by rw [hb]; omega) (by omega)
  rw [h, hs]
  simp only [Int.toNat_natCast, Nat.mul_one]
  rw [← toList_madeCells_one]
  rfl
def ShowsL (ls : List Bs) (w : World) (e : Ending) (w' : World) : Prop := ∃ v, e = .returned v ∧ SeesL w' w'.heap.size v ls ∧ Below w.heap.size w w'
set_option maxRecDepth 100000 in
theorem of_any (ls : List Bs) (B : Nat) (u : Value) (w : World) (hu : SeesL w B u ls) (hB : B ≤ w.heap.size) (hn : ls.length ≤ 1024) (hl : ∀ l ∈ ls, l.length ≤ 1048576) :
    Calls Tryz.prog 83 #[u] w (ShowsL (ls.map leafH) w) := by
  obtain ⟨A, c, rfl, hc1, hc2⟩ := hu.mk_
  have hmk := make_hashes ls.length (by omega)
  replace hu := Lib.hid hu
  go_enter Tryz.func83, Tryz.ntmps83
  go_wp2_with fail
  refine wp_fresh (fun W => W.ownsRow w.heap.size 23 1 (.slice (some ⟨w.heap.size, 0, none⟩) ls.length ls.length) ls.length (List.replicate ls.length (Value.slice none 0 0)) ∧ Below w.heap.size w W ∧ w.heap.size < W.heap.size) ⟨World.ownsRow_lit (base := w.heap.size) (size := 1) w (List.replicate ls.length (Value.slice none 0 0)).toArray ls.length (Nat.le_refl _) (by unfold maxLen; omega) (by simp), (Below.refl _ _).alloc (Nat.le_refl _) _, by simp⟩ ?_
  rintro W0 ⟨ho, hb, hlt0⟩
  replace ho := Lib.hid ho
  replace hb := Lib.hid hb
  obtain ⟨g, hg⟩ : ∃ g, g = w.heap.size := ⟨_, rfl⟩
  rw [← hg] at ho hlt0 ⊢
  replace hg := Lib.hid hg
  clear hmk
  go_loopw [4, 5, 11] (fun _ _ t wr => ∃ (k : Nat) (vs : List Value), k ≤ ls.length ∧ t = .int .i64 k ∧ Hid (wr.ownsRow g 23 1 (.slice (some ⟨g, 0, none⟩) ls.length ls.length) ls.length vs) ∧ Hid (∀ j, j < k → ∃ v, vs[j]? = some v ∧ OwnB wr (g + 1) v (leafH (ls.getD j []))) ∧ Hid (Below w.heap.size w wr) ∧ Hid (g < wr.heap.size)) (fun _ _ t _ => ls.length - (intOf t).toNat)
  case atStart => exact ⟨0, _, by omega, rfl, ho, fun j hj => absurd hj (by omega), hb, hlt0⟩
  case round =>
    clear ho hb hlt0
    obtain ⟨k, vs, hk, rfl, ho, hv, hb, hgl⟩ := hrel
    by_cases hlt : k < ls.length
    · obtain ⟨b, o, rfl, hbB, hcell⟩ := hu.out.at_ (by omega)
      obtain ⟨A', c', hc, g1, g2, hsee⟩ := hcell k hlt
      have x0 := (hb.out.cell (p := ⟨b, o + k, none⟩) (by dsimp only; omega)).trans hc
      have hlk : (ls.getD k []).length ≤ 1048576 := by
        rw [List.getD_eq_getElem?_getD, List.getElem?_eq_getElem hlt]; exact hl _ (List.getElem_mem hlt)
      have hlf := Lib.hid (leaf_any B _ _ wr (hsee.below (hb.out.mono hB)) (Nat.le_trans hB hb.out.size) (by omega))
      obtain ⟨l, hlz⟩ : ∃ l, ls.getD k [] = l := ⟨_, rfl⟩
      rw [hlz] at x0 hlf
      replace hlz := Lib.hid hlz
      clear hc hcell hsee hlk hl g1 g2
      have i0 : (0 : Int) ≤ (k : Int) := by omega
      have i1 : (k : Int) < (ls.length : Int) := by omega
      go_wp2_with fail
      refine hlf.out.mono ?_
      rintro e w2 ⟨v2, rfl, h2, hb2⟩
      have ho2 := own_below ho.out hb2
      obtain ⟨z, hz⟩ : ∃ z, vs[k]? = some z := ⟨vs[k]'(by have := ho2.1; omega), List.getElem?_eq_getElem _⟩
      have y0 : w2.cell? ⟨g, k, none⟩ = some z := (ho2.cellAt k (by omega)).trans hz
      have f0 := ho2.frozenAt k
      obtain ⟨A2, c2, rfl, -, -⟩ := h2.sees.mk_
      replace ho2 := Lib.hid ho2
      replace hz := Lib.hid hz
      replace h2 := Lib.hid (h2.mono (show g + 1 ≤ wr.heap.size from hgl.out))
      replace hv := Lib.hid (fun j hj => by obtain ⟨v, e1, e2⟩ := hv.out j hj; exact ⟨v, e1, e2.below hb2⟩ : ∀ j, j < k → ∃ v, vs[j]? = some v ∧ OwnB w2 (g + 1) v (leafH (ls.getD j [])))
      replace hgl := Lib.hid (Nat.lt_of_lt_of_le hgl.out hb2.size)
      replace hb := Lib.hid (bgo hb.out hb2)
      clear hb2 hlf ho
      dsimp only
      go_wp2_with fail
      go_roundw
      case rel =>
        refine ⟨k + 1, vs.set k (.slice A2 (leafH l).length c2), by omega, by go_num, (ho2.out.stored k _).1, fun j hj => ?_, hb.out.setCell (by have := hg.out; dsimp only; omega) _, by have := hgl.out; show _ < _; simp [World.setCell]; omega⟩
        by_cases hjk : j = k
        · subst hjk
          refine ⟨_, List.getElem?_set_self (by have := ho2.out.1; omega), ?_⟩
          rw [hlz.out]
          exact ownsRow_setCell_below h2.out (by dsimp only; omega) _
        · obtain ⟨v, e1, e2⟩ := hv.out j (by omega)
          exact ⟨v, by rw [List.getElem?_set_ne (by omega)]; exact e1, ownsRow_setCell_below e2 (by dsimp only; omega) _⟩
      case measure => simp [intOf]; omega
    · have hkn : k = ls.length := by omega
      have hfin : Hid (SeesL wr wr.heap.size (.slice (some ⟨g, 0, none⟩) ls.length ls.length) (ls.map leafH)) := by
        refine ⟨vs, by rw [List.length_map]; exact Sees.of_own ho.out, fun j hj => ?_⟩
        rw [List.length_map] at hj
        obtain ⟨v, e1, e2⟩ := hv.out j (by omega)
        refine ⟨v, e1, ?_⟩
        rw [List.getD_eq_getElem?_getD, List.getElem?_map, List.getElem?_eq_getElem hj, Option.map_some, Option.getD_some]
        rw [List.getD_eq_getElem?_getD, List.getElem?_eq_getElem hj, Option.getD_some] at e2
        exact e2.sees
      replace hkn := Lib.hid hkn
      go_wp2_with fail
      go_ret
      exact ⟨_, rfl, hfin.out, hb.out⟩
end
section
open Go.RowKit
set_option linter.unusedVariables false
attribute [local go_sem ↓] Go.wp_at_zero Go.wp_at_succ
theorem root_top (ls : List Bs) (B : Nat) (u : Value) (w : World) (hu : SeesL w B u ls) (hB : B ≤ w.heap.size) (hn : ls.length ≤ 1024) (hl : ∀ l ∈ ls, l.length ≤ 1048576) :
    Calls Tryz.prog 76 #[u] w (RootPost ls w) := by
  have hs := Lib.hid (of_any ls B u w hu hB hn hl)
  obtain ⟨A, c, rfl, hc1, hc2⟩ := hu.mk_
  have j0 : ¬ ((1024 : Int) < (ls.length : Int)) := by omega
  clear hu hl
  go_enter Tryz.func76, Tryz.ntmps76
  go_wp2_with fail
  refine hs.out.mono ?_
  rintro e w1 ⟨v, rfl, h1, hb1⟩
  dsimp only
  go_wp2_with fail
  refine (root_any _ _ _ _ _ (Nat.le_refl _) h1 (Nat.le_refl _) (by rw [List.length_map]; exact hn) (leafs_len ls)).mono ?_
  rintro e w2 ⟨v2, rfl, h2, hb2⟩
  dsimp only
  go_wp2_with fail
  go_returns
  exact ⟨v2, rfl, h2.mono hb1.size, bgo hb1 hb2⟩
end
section
open Go.RowKit
set_option linter.unusedVariables false
attribute [local go_sem ↓] Go.wp_at_zero Go.wp_at_succ
def leavesL (seed : Bs) (n : Nat) : List Bs := (List.range n).map (otPublic seed)
theorem leavesL_len (seed : Bs) (n : Nat) : (leavesL seed n).length = n := by simp [leavesL]
theorem leavesL_succ (seed : Bs) (n : Nat) : leavesL seed (n + 1) = leavesL seed n ++ [otPublic seed n] := by simp [leavesL, List.range_succ]
theorem leavesL_el (seed : Bs) (n : Nat) : ∀ l ∈ leavesL seed n, l.length = 16 := by
  intro l hl
  obtain ⟨i, _, rfl⟩ := List.mem_map.1 hl
  exact short_len _
/-- The call returns a row of its own with these lists of bytes, and changes nothing that was there. -/
def GivesL (ls : List Bs) (w : World) (e : Ending) (w' : World) : Prop := ∃ v, e = .returned v ∧ OwnL w' w.heap.size v ls ∧ Below w.heap.size w w'
theorem wrap_pow (h : Nat) (hh : h ≤ 6) : wrap64 ((2 : Int) ^ h) = ((2 ^ h : Nat) : Int) := by
  rcases (by omega : h = 0 ∨ h = 1 ∨ h = 2 ∨ h = 3 ∨ h = 4 ∨ h = 5 ∨ h = 6) with rfl | rfl | rfl | rfl | rfl | rfl | rfl
  all_goals decide +kernel
theorem pow_le64 (h : Nat) (hh : h ≤ 6) : 1 ≤ 2 ^ h ∧ 2 ^ h ≤ 64 := by
  rcases (by omega : h = 0 ∨ h = 1 ∨ h = 2 ∨ h = 3 ∨ h = 4 ∨ h = 5 ∨ h = 6) with rfl | rfl | rfl | rfl | rfl | rfl | rfl
  all_goals decide
theorem set_rep (ls : List Bs) (k n : Nat) (x : Bs) (hk : ls.length = k) (hn : k < n) : (ls ++ List.replicate (n - k) []).set k x = (ls ++ [x]) ++ List.replicate (n - (k + 1)) [] := by
  subst hk
  rw [List.set_append_right _ _ (Nat.le_refl _), Nat.sub_self, show n - ls.length = (n - (ls.length + 1)) + 1 from by omega, List.replicate_succ, List.set_cons_zero, List.append_assoc]
  rfl
set_option maxRecDepth 100000 in
theorem leaves_any (B : Nat) (u : Value) (seed : Bs) (h : Nat) (w : World) (hu : SeesB w B u seed) (hB : B ≤ w.heap.size) (hl : seed.length = 32) (hh : h ≤ 6) :
    Calls Tryz.prog 77 #[u, .int .i64 (h : Int)] w (GivesL (leavesL seed (2 ^ h)) w) := by
  obtain ⟨A, c, rfl, hc1, hc2⟩ := hu.mk_
  rw [hl] at hc1 hu ⊢
  replace hl := Lib.hid hl
  have hsh := wrap_pow h hh
  obtain ⟨n1, n2⟩ := pow_le64 h hh
  generalize 2 ^ h = n at *
  have hmk := make_lists 35 Tryz.underlying35 n (by omega)
  have hlen0 := leavesL_len seed
  replace hlen0 := Lib.hid hlen0
  replace hu := Lib.hid hu
  go_enter Tryz.func77, Tryz.ntmps77
  go_wp2_with fail
  refine wp_fresh (fun W => OwnL W w.heap.size (.slice (some ⟨w.heap.size, 0, none⟩) n n) (leavesL seed 0 ++ List.replicate (n - 0) []) ∧ Below w.heap.size w W ∧ w.heap.size < W.heap.size) ⟨show OwnL _ _ _ (List.replicate n []) from OwnL.made w n (by unfold maxLen; omega), balloc w _, by simp⟩ ?_
  rintro W0 ⟨ho, hb, hlt0⟩
  replace ho := Lib.hid ho
  replace hb := Lib.hid hb
  obtain ⟨g, hg⟩ : ∃ g, g = w.heap.size := ⟨_, rfl⟩
  rw [← hg] at ho hlt0 ⊢
  replace hg := Lib.hid hg
  clear hmk hsh
  go_loopw [6, 12] (fun _ t wr => ∃ k : Nat, k ≤ n ∧ t = .int .i64 k ∧ Hid (OwnL wr g (.slice (some ⟨g, 0, none⟩) n n) (leavesL seed k ++ List.replicate (n - k) [])) ∧ Hid (Below w.heap.size w wr) ∧ Hid (g < wr.heap.size)) (fun _ t _ => n - (intOf t).toNat)
  case atStart => exact ⟨0, by omega, rfl, ho, hb, hlt0⟩
  case round =>
    clear ho hb hlt0
    obtain ⟨k, hk, rfl, ho, hb, hgl⟩ := hrel
    by_cases hlt : k < n
    · have hpb := otpublic_any B _ seed (k : Int) wr (hu.out.below (hb.out.mono hB)) (Nat.le_trans hB hb.out.size)
      have hoc : otC seed (k : Int) = 0 := by simp [otC, hl.out]; omega
      unfold PubPost pubL at hpb
      rw [hoc, if_pos rfl, Int.toNat_natCast] at hpb
      replace hpb := Lib.hid hpb
      have hst : Hid (leavesL seed (k + 1) ++ List.replicate (n - (k + 1)) [] = (leavesL seed k ++ List.replicate (n - k) []).set k (otPublic seed k)) := by
        show _ = _
        rw [set_rep _ _ _ _ (leavesL_len seed k) hlt, leavesL_succ]
      have hrow : Hid (k < (leavesL seed k ++ List.replicate (n - k) []).length) := by show _ < _; rw [List.length_append, leavesL_len, List.length_replicate]; omega
      generalize leavesL seed k ++ List.replicate (n - k) [] = row at *
      generalize otPublic seed k = l at *
      clear hoc
      have i0 : (0 : Int) ≤ (k : Int) := by omega
      have i1 : (k : Int) < (n : Int) := by omega
      go_wp2_with fail
      refine hpb.out.mono ?_
      rintro e w2 ⟨v2, rfl, h2, hb2, hf2⟩
      have ho2 := ho.out.below hb2
      obtain ⟨⟨z, y0⟩, f0⟩ := ho2.cell hrow.out
      obtain ⟨o1, o2⟩ := ho2.set hrow.out (Elt.of_from h2 hf2 (fun k hk => by cases hk; exact hgl.out))
      obtain ⟨A2, c2, rfl, -, -⟩ := h2.mk_
      replace hb := Lib.hid ((bgo hb.out hb2).trans (o2.mono (by have := hg.out; omega)))
      replace hgl : Hid (g < (w2.setCell ⟨g, k, none⟩ (.slice A2 l.length c2)).heap.size) := Nat.lt_of_lt_of_le (Nat.lt_of_lt_of_le hgl.out hb2.size) o2.size
      replace o1 := Lib.hid o1
      clear hb2 hpb ho ho2 o2 h2 hf2
      dsimp only
      go_wp2_with fail
      go_roundw
      case rel => exact ⟨k + 1, by omega, by go_num, by rw [hst.out]; exact o1.out, hb, hgl⟩
      case measure => simp [intOf]; omega
    · have hkn : k = n := by omega
      have hfin : Hid (OwnL wr w.heap.size (.slice (some ⟨g, 0, none⟩) n n) (leavesL seed n)) := by
        have := ho.out
        rw [hkn, Nat.sub_self, List.replicate_zero, List.append_nil] at this
        exact this.mono (by have := hg.out; omega)
      replace hkn := Lib.hid hkn
      clear ho
      go_wp2_with fail
      go_ret
      exact ⟨_, rfl, hfin.out, hb.out⟩
set_option maxRecDepth 100000 in
theorem rleaves_any (B : Nat) (u : Value) (seed : Bs) (h : Nat) (w : World) (hu : SeesB w B u seed) (hB : B ≤ w.heap.size) (hl : seed.length = 32) (hh : h ≤ 6) :
    Calls Tryz.prog 33 #[u, .int .i64 (h : Int)] w (GivesL (leavesL seed (2 ^ h)) w) := by
  obtain ⟨A, c, rfl, hc1, hc2⟩ := hu.mk_
  rw [hl] at hc1 hu ⊢
  replace hl := Lib.hid hl
  have hsh := wrap_pow h hh
  obtain ⟨n1, n2⟩ := pow_le64 h hh
  have m0 : IntKind.u64.wrap (h : Int) = (h : Int) := by rw [IntKind.wrap_u64]; omega
  generalize 2 ^ h = n at *
  replace hu := Lib.hid hu
  go_enter Tryz.func33, Tryz.ntmps33
  go_wp2_with fail
  go_loopw [5, 6, 7, 8] (fun v t _ _ wr => ∃ k : Nat, k ≤ n ∧ t = .int .i64 k ∧ Hid (OwnL wr w.heap.size v (leavesL seed k)) ∧ Hid (Below w.heap.size w wr)) (fun _ t _ _ _ => n - (intOf t).toNat)
  case atStart => exact ⟨0, by omega, rfl, OwnL.nil _ _, Below.refl _ _⟩
  case round =>
    obtain ⟨k, hk, rfl, ho, hb⟩ := hrel
    by_cases hlt : k < n
    · have hpb := rotpublic_any B _ seed (k : Int) wr (hu.out.below (hb.out.mono hB)) (Nat.le_trans hB hb.out.size)
      have hoc : otC seed (k : Int) = 0 := by simp [otC, hl.out]; omega
      unfold PubPost pubL at hpb
      rw [hoc, if_pos rfl, Int.toNat_natCast] at hpb
      replace hpb := Lib.hid hpb
      have hst := Lib.hid (leavesL_succ seed k)
      have hrow : Hid ((leavesL seed k).length ≤ 64) := by show _ ≤ _; rw [leavesL_len]; omega
      generalize leavesL seed k = row at *
      generalize otPublic seed k = l at *
      clear hoc
      have i0 : (0 : Int) ≤ (k : Int) := by omega
      have i1 : (k : Int) < (n : Int) := by omega
      obtain ⟨Ar, cr, rfl⟩ := ho.out.shape
      go_wp2_with fail
      refine hpb.out.mono ?_
      rintro e w2 ⟨v2, rfl, h2, hb2, hf2⟩
      have ho2 := ho.out.below hb2
      have hel := Elt.of_from (v := .slice Ar row.length cr) h2 hf2 (fun k hk => (ho.out.lt k hk).2)
      obtain ⟨A2, c2, rfl, -, -⟩ := h2.mk_
      replace hb := Lib.hid (bgo hb.out hb2)
      have hal := balloc w2 (.cells #[.slice A2 l.length c2] 23)
      have hcell := Lib.hid (one_cell w2 (.slice A2 l.length c2) 23)
      replace ho2 := Lib.hid (ho2.below hal)
      replace hel := Lib.hid (hel.below hal)
      have hb3 := Lib.hid (bgo hb.out hal)
      clear hb2 hpb ho h2 hf2 hal hb
      dsimp only
      go_wp2_with (at_builtin; refine wpList_appL (by rfl) _ _ 35 Tryz.underlying35 rfl w.heap.size _ row rfl ho2.out _ _ _ l rfl hcell.out hel.out (by have := hrow.out; omega) hb3.out.size ?_)
      intro v' w' hW2 hb4
      have hW2 := Lib.hid hW2
      have hb4 := Lib.hid hb4
      go_wp2_with fail
      go_roundw
      case rel => exact ⟨k + 1, by omega, by go_num, by rw [hst.out]; exact hW2.out, hb3.out.trans hb4.out⟩
      case measure => simp [intOf]; omega
    · have hkn : k = n := by omega
      rw [hkn] at ho
      replace hkn := Lib.hid hkn
      go_wp2_with fail
      go_ret
      exact ⟨_, rfl, ho.out, hb.out⟩
end
section
open Go.RowKit
set_option linter.unusedVariables false
attribute [local go_sem ↓] Go.wp_at_zero Go.wp_at_succ
def digA (d : Bs) : List Nat := d.flatMap fun x => [x.toNat / 16, x.toNat % 16]
def sumD (l : List Nat) : Nat := (l.map fun x => 15 - x).sum
def digs (d : Bs) : List Nat := digA d ++ [sumD (digA d) / 256, sumD (digA d) / 16 % 16, sumD (digA d) % 16]
theorem digA_len (d : Bs) : (digA d).length = 2 * d.length := by
  induction d with
  | nil => rfl
  | cons x d ih => simp only [digA, List.flatMap_cons, List.length_append, List.length_cons, List.length_nil] at ih ⊢; omega
theorem digs_len (d : Bs) : (digs d).length = 2 * d.length + 3 := by simp [digs, digA_len]
theorem digA_lt (d : Bs) : ∀ x ∈ digA d, x < 16 := by
  intro x hx
  obtain ⟨y, _, hy⟩ := List.mem_flatMap.1 hx
  have := y.toNat_lt
  simp only [List.mem_cons, List.not_mem_nil, or_false] at hy
  omega
theorem sumD_le (l : List Nat) : sumD l ≤ 15 * l.length := by
  induction l with
  | nil => simp [sumD]
  | cons x l ih => simp only [sumD, List.map_cons, List.sum_cons, List.length_cons] at ih ⊢; omega
theorem sumD_snoc (l : List Nat) (x : Nat) : sumD (l ++ [x]) = sumD l + (15 - x) := by simp [sumD]
theorem digs_lt (d : Bs) (h : d.length = 16) : ∀ x ∈ digs d, x < 16 := by
  intro x hx
  have h1 := sumD_le (digA d)
  rw [digA_len, h] at h1
  rcases List.mem_append.1 hx with hx | hx
  · exact digA_lt d x hx
  · simp only [List.mem_cons, List.not_mem_nil, or_false] at hx
    omega
theorem digA_take (d : Bs) (k : Nat) (h : k < d.length) : digA (d.take (k + 1)) = digA (d.take k) ++ [(d.getD k 0).toNat / 16] ++ [(d.getD k 0).toNat % 16] := by
  rw [List.take_succ_eq_append_getElem h, digA, List.flatMap_append, List.getD_eq_getElem?_getD, List.getElem?_eq_getElem h]
  simp [digA]
/-- The cells of a list of numbers. -/
def vi (l : List Nat) : List Value := l.map fun (n : Nat) => .int .i64 (n : Int)
theorem vi_len (l : List Nat) : (vi l).length = l.length := by simp [vi]
theorem vi_append (a b : List Nat) : vi (a ++ b) = vi a ++ vi b := by simp [vi]
theorem vi_one (l : List Nat) : ∀ u ∈ vi l, u.oneCell' = true := by
  intro u hu
  obtain ⟨x, _, rfl⟩ := List.mem_map.1 hu
  rfl
def SeesI (w : World) (B : Nat) (v : Value) (l : List Nat) : Prop := Sees w B v 1 l.length (vi l)
def OwnI (w : World) (base : Nat) (v : Value) (l : List Nat) : Prop := w.ownsRow base 3 1 v l.length (vi l)
theorem OwnI.sees {w : World} {base : Nat} {v : Value} {l : List Nat} (h : OwnI w base v l) : SeesI w w.heap.size v l := Sees.of_own h
theorem OwnI.below {w w' : World} {base : Nat} {v : Value} {l : List Nat} (h : OwnI w base v l) (hb : Below w.heap.size w w') : OwnI w' base v l := own_below h hb
theorem OwnI.mono {w : World} {base base' : Nat} {v : Value} {l : List Nat} (h : OwnI w base v l) (hb : base' ≤ base) : OwnI w base' v l := by
  refine ⟨h.1, ?_⟩
  rcases h.2 with h | ⟨g, cap, cur, h1, h2, h3⟩
  · exact .inl h
  · exact .inr ⟨g, cap, cur, h1, by omega, h3⟩
theorem SeesI.mk_ {w : World} {B : Nat} {v : Value} {l : List Nat} (h : SeesI w B v l) : ∃ A c, v = .slice A l.length c ∧ l.length ≤ c ∧ c ≤ maxLen := Sees.mk_ h
theorem SeesI.at_ {w : World} {B : Nat} {A : Option Addr} {n c : Nat} {l : List Nat} (h : SeesI w B (.slice A n c) l) (hn : 0 < l.length) : ∃ b o, A = some ⟨b, o, none⟩ ∧ b < B ∧ ∀ j, j < l.length → w.cell? ⟨b, o + j, none⟩ = some (.int .i64 ((l.getD j 0 : Nat) : Int)) := by
  obtain ⟨_, A', c', hv, h1, h2, h3⟩ := h
  injection hv with e1 e2 e3
  subst e1
  obtain ⟨b, o, e, hb, hc⟩ := h3 hn
  refine ⟨b, o, e, hb, fun j hj => hc j _ ?_⟩
  rw [vi, List.getElem?_map, List.getElem?_eq_getElem hj, Option.map_some, List.getD_eq_getElem?_getD, List.getElem?_eq_getElem hj]
  rfl
theorem below_grownI {w w' : World} {base : Nat} {v : Value} {l : List Nat} (h : OwnI w base v l) (hg : w.grownBy w' v.ownBlock) (hb : base ≤ w.heap.size) : Below base w w' := by
  refine ⟨hg.os, hg.tape, hg.output, hg.size, fun k hk => hg.block k (by omega) (fun e => ?_)⟩
  have := (h.lt k e.symm).1
  omega
theorem int_info : (Tryz.prog.info? 3).map (fun i => (i.zero, i.size, i.bytes)) = some (some (.int .i64 0), 1, 8) := by kernel_rfl
theorem wpList_appI {ops : Array Oper} {rest : List Oper} {o : Oper} {a : Act} {w : World} {Q : Exit → Act → World → Prop} (hgd : Region.wanted o (yielded ops a.tmps) = true) (s x : Operand)
    (ho : o.op = .call { callee := .builtin .append, args := #[s, x], argTypes := #[95, 95] })
    (base : Nat) (v : Value) (l : List Nat) (hs : a.eval s = v) (hown : OwnI w base v l) (B : Nat) (u : Value) (m : List Nat) (hx : a.eval x = u) (hr : SeesI w B u m)
    (hlen : l.length + m.length ≤ 1099511627776) (hbase : base ≤ w.heap.size)
    (h : ∀ v' w', OwnI w' base v' (l ++ m) → Below base w w' → wpList Tryz.prog ops Q rest (a.put o.dst v') w') : wpList Tryz.prog ops Q (o :: rest) a w := by
  obtain ⟨i, hi, hz, hsz, hby⟩ := info_parts int_info
  refine wpList_append_sees hgd s x 95 ho base 3 i (.int .i64 0) 1 8 Tryz.underlying95 hi hz hsz hby rfl (by omega) v l.length (vi l) hs hown B u m.length (vi m) hx hr (vi_one m) (by unfold maxLen; omega) (by omega) hbase ?_
  intro v' w' h1 h2 h3
  refine h v' w' ?_ (below_grownI hown h2 hbase)
  unfold OwnI
  rw [vi_append, List.length_append]
  exact h1
theorem lit_ints (w : World) (l : List Nat) (hl : l.length ≤ 16) : SeesI (w.alloc (.cells (vi l).toArray 3)) (w.heap.size + 1) (.slice (some ⟨w.heap.size, 0, none⟩) l.length l.length) l := by
  refine ⟨by rw [vi_len, Nat.mul_one], _, l.length, rfl, Nat.le_refl _, by unfold maxLen; omega, fun _ => ⟨w.heap.size, 0, rfl, by omega, fun j u hj => ?_⟩⟩
  have := (Box.new w 3 (vi l)).cell j
  rw [Nat.zero_add, this, hj]
theorem lit_int1 (w : World) (p : Nat) : SeesI (w.alloc (.cells #[.int .i64 (p : Int)] 3)) (w.heap.size + 1) (.slice (some ⟨w.heap.size, 0, none⟩) 1 1) [p] := lit_ints w [p] (by simp)
theorem lit_int2 (w : World) (p q : Nat) : SeesI (w.alloc (.cells #[.int .i64 (p : Int), .int .i64 (q : Int)] 3)) (w.heap.size + 1) (.slice (some ⟨w.heap.size, 0, none⟩) 2 2) [p, q] := lit_ints w [p, q] (by simp)
theorem lit_int3 (w : World) (p q r : Nat) : SeesI (w.alloc (.cells #[.int .i64 (p : Int), .int .i64 (q : Int), .int .i64 (r : Int)] 3)) (w.heap.size + 1) (.slice (some ⟨w.heap.size, 0, none⟩) 3 3) [p, q, r] := lit_ints w [p, q, r] (by simp)
theorem make_35 (W : World) : (Instr.makeSlice 95 (.int .i64 0) (.int .i64 35)).run Tryz.prog W = .ok (.slice (some ⟨W.heap.size, 0, none⟩) 0 35) (W.alloc (.cells (madeCells #[.int .i64 0] 35) 3)) := by
  obtain ⟨i, hi, hz, hs, hb⟩ := info_parts int_info
  have h := run_make (P := Tryz.prog) W 95 3 i (.int .i64 0) Tryz.underlying95 hi hz .i64 .i64 0 35 (by omega) (by omega) (by rw [hb]; omega) (by omega)
  rw [h, hs]
  rfl
theorem and15_u8 : ∀ n : Fin 256, bits .and .u8 (n.val : Int) 15 = ((n.val % 16 : Nat) : Int) := by decide +kernel
theorem and15_i64 : ∀ n : Fin 512, bits .and .i64 (n.val : Int) 15 = ((n.val % 16 : Nat) : Int) := by decide +kernel
theorem and_u8 (x : UInt8) : bits .and .u8 (x.toNat : Int) 15 = ((x.toNat % 16 : Nat) : Int) := and15_u8 ⟨x.toNat, x.toNat_lt⟩
theorem and_i64 (n : Nat) (hn : n < 512) : bits .and .i64 (n : Int) 15 = ((n % 16 : Nat) : Int) := and15_i64 ⟨n, hn⟩
def DigPost (d : Bs) (w : World) (e : Ending) (w' : World) : Prop :=
  ∃ v, e = .returned (.tuple #[v, .int .i64 0]) ∧ OwnI w' w.heap.size v (digs d) ∧ Below w.heap.size w w'
set_option maxRecDepth 100000 in
theorem digits_any (B : Nat) (u : Value) (d : Bs) (w : World) (hu : SeesB w B u d) (hB : B ≤ w.heap.size) (hl : d.length = 16) :
    Calls Tryz.prog 108 #[u] w (DigPost d w) := by
  obtain ⟨A, c, rfl, hc1, hc2⟩ := hu.mk_
  rw [hl] at hc1 hu ⊢
  have hmk := make_35
  obtain ⟨b, o, rfl, hbB, hcell⟩ := hu.at_ (by omega)
  replace hl := Lib.hid hl
  replace hcell := Lib.hid hcell
  replace hbB := Lib.hid hbB
  clear hu
  go_enter Tryz.func108, Tryz.ntmps108
  go_wp2_with fail
  refine wp_fresh (fun W => OwnI W w.heap.size (.slice (some ⟨w.heap.size, 0, none⟩) 0 35) [] ∧ Below w.heap.size w W) ⟨World.ownsRow_made w _ 35 (Nat.le_refl _) (by unfold maxLen; omega) (size_madeCells _ _), balloc w _⟩ ?_
  rintro W0 ⟨ho, hb⟩
  replace ho := Lib.hid ho
  replace hb := Lib.hid hb
  clear hmk
  go_loopw [4, 5, 7, 9, 17, 28] (fun v s _ _ t _ wr => ∃ k : Nat, k ≤ 16 ∧ t = .int .i64 k ∧ Hid (OwnI wr w.heap.size v (digA (d.take k))) ∧ s = .int .i64 ((sumD (digA (d.take k)) : Nat) : Int) ∧ Hid (Below w.heap.size w wr)) (fun _ _ _ _ t _ _ => 16 - (intOf t).toNat)
  case atStart => exact ⟨0, by omega, rfl, ho, rfl, hb⟩
  case round =>
    clear ho hb
    obtain ⟨k, hk, rfl, ho, rfl, hb⟩ := hrel
    by_cases hlt : k < 16
    · have x0 := (hb.out.cell (p := ⟨b, o + k, none⟩) (Nat.lt_of_lt_of_le hbB.out hB)).trans (hcell.out k (by rw [hl.out]; exact hlt))
      have hst := Lib.hid (digA_take d k (by rw [hl.out]; exact hlt))
      have hsl := sumD_le (digA (d.take k))
      rw [digA_len, List.length_take] at hsl
      have hal : Hid ((digA (d.take k)).length ≤ 32) := by show _ ≤ _; rw [digA_len, List.length_take]; omega
      generalize digA (d.take k) = acc at *
      generalize d.getD k 0 = x at *
      have hx := x.toNat_lt
      unfold byV at x0
      have ha := and_u8 x
      have i0 : (0 : Int) ≤ (k : Int) := by omega
      have i1 : (k : Int) < 16 := by omega
      go_wp2_with fail
      rw [show ((x.toNat : Int) / 16) = ((x.toNat / 16 : Nat) : Int) from rfl, show ((x.toNat : Int) % 16) = ((x.toNat % 16 : Nat) : Int) from rfl]
      obtain ⟨wo, rfl⟩ : ∃ wo : World, wo = wr := ⟨_, rfl⟩
      have hp : x.toNat / 16 < 16 := by omega
      have hq : x.toNat % 16 < 16 := by omega
      generalize x.toNat / 16 = p at *
      generalize x.toNat % 16 = q at *
      have e0 : ∀ W, (Instr.index 157 (.agg #[.int .i64 (p : Int), .int .i64 (q : Int)]) (.int .i64 0)).run Tryz.prog W = .ok (.int .i64 (p : Int)) W := fun _ => by kernel_rfl
      have e1 : ∀ W, (Instr.index 157 (.agg #[.int .i64 (p : Int), .int .i64 (q : Int)]) (.int .i64 1)).run Tryz.prog W = .ok (.int .i64 (q : Int)) W := fun _ => by kernel_rfl
      have hs1 := Lib.hid (sumD_snoc acc p)
      have hs2 := Lib.hid (sumD_snoc (acc ++ [p]) q)
      clear ha x0 hx
      go_loopw [4, 5, 9, 28] (fun v s _ t wr => ∃ j : Nat, j ≤ 2 ∧ t = .int .i64 j ∧ Hid (OwnI wr w.heap.size v (acc ++ [p, q].take j)) ∧ s = .int .i64 ((sumD (acc ++ [p, q].take j) : Nat) : Int) ∧ Hid (Below w.heap.size w wr)) (fun _ _ _ t _ => 2 - (intOf t).toNat)
      case atStart => exact ⟨0, by omega, rfl, by rw [List.take_zero, List.append_nil]; exact ho, by rw [List.take_zero, List.append_nil], hb⟩
      case round =>
        clear ho hb
        obtain ⟨j, hj, rfl, ho, rfl, hb⟩ := hrel
        obtain ⟨Ar, cr, rfl, -, -⟩ := ho.out.sees.mk_
        rcases (by omega : j = 0 ∨ j = 1 ∨ j = 2) with rfl | rfl | rfl
        · rw [List.take_zero, List.append_nil] at ho ⊢
          have hal2 := balloc wr (.cells #[.int .i64 (p : Int)] 3)
          have ho2 := Lib.hid (ho.out.below hal2)
          have hcl := Lib.hid (lit_int1 wr p)
          have hb2 := Lib.hid (hb.out.trans (hal2.mono hb.out.size))
          clear ho hb hal2
          go_wp2_with (at_builtin; refine wpList_appI (by rfl) _ _ rfl w.heap.size _ acc rfl ho2.out _ _ [p] rfl hcl.out (by have := hal.out; simp; omega) hb2.out.size ?_)
          intro v' w' hW2 hb4
          have hW2 := Lib.hid hW2
          have hb4 := Lib.hid (hb2.out.trans hb4)
          go_wp2_with fail
          go_roundw
          case rel => exact ⟨1, by omega, by go_num, hW2.out, by rw [show acc ++ List.take 1 [p, q] = acc ++ [p] from rfl, hs1.out]; go_num, hb4⟩
          case measure => simp [intOf]
        · have hal2 := balloc wr (.cells #[.int .i64 (q : Int)] 3)
          have ho2 := Lib.hid (ho.out.below hal2)
          have hcl := Lib.hid (lit_int1 wr q)
          have hb2 := Lib.hid (hb.out.trans (hal2.mono hb.out.size))
          rw [show acc ++ List.take 1 [p, q] = acc ++ [p] from rfl] at ho2 ⊢
          rw [hs1.out]
          have hl1 : (acc ++ List.take 1 [p, q]).length = acc.length + 1 := by simp
          clear ho hb hal2
          go_wp2_with (at_builtin; refine wpList_appI (by rfl) _ _ rfl w.heap.size _ (acc ++ [p]) rfl ho2.out _ _ [q] rfl hcl.out (by have := hal.out; simp; omega) hb2.out.size ?_)
          intro v' w' hW2 hb4
          have hW2 := Lib.hid hW2
          have hb4 := Lib.hid (hb2.out.trans hb4)
          go_wp2_with fail
          go_roundw
          case rel => exact ⟨2, by omega, by go_num, by have := hW2.out; show OwnI _ _ _ _; simpa using this, by rw [show acc ++ List.take 2 [p, q] = acc ++ [p] ++ [q] by simp, hs2.out, hs1.out]; go_num, hb4⟩
          case measure => simp [intOf]
        · rw [show acc ++ List.take 2 [p, q] = acc ++ [p] ++ [q] by simp, ← hst.out] at ho ⊢
          go_wp2_with fail
          go_roundw
          case rel => exact ⟨k + 1, by omega, by go_num, ho, rfl, hb⟩
          case measure => simp [intOf]; omega
    · have hk16 : k = 16 := by omega
      have hds : Hid (digs d = digA d ++ [sumD (digA d) / 256 % 16, sumD (digA d) / 16 % 16, sumD (digA d) % 16]) := by
        have h1 := sumD_le (digA d)
        rw [digA_len, hl.out] at h1
        show _ = _
        rw [digs, Nat.mod_eq_of_lt (a := sumD (digA d) / 256) (by omega)]
      have hS := sumD_le (digA d)
      rw [digA_len, hl.out] at hS
      have hal : Hid ((digA d).length ≤ 32) := by show _ ≤ _; rw [digA_len, hl.out]; omega
      rw [hk16, List.take_of_length_le (by rw [hl.out]; omega)] at ho
      rw [List.take_of_length_le (by rw [hl.out]; omega)]
      generalize digA d = acc at *
      generalize hSS : sumD acc = S at *
      replace hSS := Lib.hid hSS
      replace hk16 := Lib.hid hk16
      have s2 : bits .and .i64 ((S : Int) / 256) 15 = ((S / 256 % 16 : Nat) : Int) := and_i64 (S / 256) (by omega)
      have s1 : bits .and .i64 ((S : Int) / 16) 15 = ((S / 16 % 16 : Nat) : Int) := and_i64 (S / 16) (by omega)
      have s0 := and_i64 S (by omega)
      generalize S / 256 % 16 = a2 at *
      generalize S / 16 % 16 = a1 at *
      generalize S % 16 = a0 at *
      go_wp2_with fail
      obtain ⟨wo, rfl⟩ : ∃ wo : World, wo = wr := ⟨_, rfl⟩
      go_loopw [4, 10] (fun v t wr => ∃ j : Nat, j ≤ 3 ∧ t = .int .i64 (2 - (j : Int)) ∧ Hid (OwnI wr w.heap.size v (acc ++ [a2, a1, a0].take j)) ∧ Hid (Below w.heap.size w wr)) (fun _ t _ => (1 + intOf t).toNat)
      case atStart => exact ⟨0, by omega, rfl, by rw [List.take_zero, List.append_nil]; exact ho, hb⟩
      case round =>
        clear ho hb
        obtain ⟨j, hj, rfl, ho, hb⟩ := hrel
        obtain ⟨Ar, cr, rfl, -, -⟩ := ho.out.sees.mk_
        rcases (by omega : j = 0 ∨ j = 1 ∨ j = 2 ∨ j = 3) with rfl | rfl | rfl | rfl
        · rw [List.take_zero, List.append_nil] at ho ⊢
          have hal2 := balloc wr (.cells #[.int .i64 (a2 : Int)] 3)
          have ho2 := Lib.hid (ho.out.below hal2)
          have hcl := Lib.hid (lit_int1 wr a2)
          have hb2 := Lib.hid (hb.out.trans (hal2.mono hb.out.size))
          clear ho hb hal2
          go_wp2_with (at_builtin; refine wpList_appI (by rfl) _ _ rfl w.heap.size _ acc rfl ho2.out _ _ [a2] rfl hcl.out (by have := hal.out; simp; omega) hb2.out.size ?_)
          intro v' w' hW2 hb4
          have hW2 := Lib.hid hW2
          have hb4 := Lib.hid (hb2.out.trans hb4)
          go_wp2_with fail
          go_roundw
          case rel => exact ⟨1, by omega, by simp, by have := hW2.out; show OwnI _ _ _ _; simpa using this, hb4⟩
          case measure => simp [intOf]
        · rw [show acc ++ List.take 1 [a2, a1, a0] = acc ++ [a2] from rfl] at ho ⊢
          have hal2 := balloc wr (.cells #[.int .i64 (a1 : Int)] 3)
          have ho2 := Lib.hid (ho.out.below hal2)
          have hcl := Lib.hid (lit_int1 wr a1)
          have hb2 := Lib.hid (hb.out.trans (hal2.mono hb.out.size))
          clear ho hb hal2
          go_wp2_with (at_builtin; refine wpList_appI (by rfl) _ _ rfl w.heap.size _ (acc ++ [a2]) rfl ho2.out _ _ [a1] rfl hcl.out (by have := hal.out; simp; omega) hb2.out.size ?_)
          intro v' w' hW2 hb4
          have hW2 := Lib.hid hW2
          have hb4 := Lib.hid (hb2.out.trans hb4)
          go_wp2_with fail
          go_roundw
          case rel => exact ⟨2, by omega, by simp, by have := hW2.out; show OwnI _ _ _ _; simpa using this, hb4⟩
          case measure => simp [intOf]
        · rw [show acc ++ List.take 2 [a2, a1, a0] = acc ++ [a2, a1] from rfl] at ho ⊢
          have hal2 := balloc wr (.cells #[.int .i64 (a0 : Int)] 3)
          have ho2 := Lib.hid (ho.out.below hal2)
          have hcl := Lib.hid (lit_int1 wr a0)
          have hb2 := Lib.hid (hb.out.trans (hal2.mono hb.out.size))
          clear ho hb hal2
          go_wp2_with (at_builtin; refine wpList_appI (by rfl) _ _ rfl w.heap.size _ (acc ++ [a2, a1]) rfl ho2.out _ _ [a0] rfl hcl.out (by have := hal.out; simp; omega) hb2.out.size ?_)
          intro v' w' hW2 hb4
          have hW2 := Lib.hid hW2
          have hb4 := Lib.hid (hb2.out.trans hb4)
          go_wp2_with fail
          go_roundw
          case rel => exact ⟨3, by omega, by simp, by have := hW2.out; show OwnI _ _ _ _; simpa using this, hb4⟩
          case measure => simp [intOf]
        · rw [show acc ++ List.take 3 [a2, a1, a0] = acc ++ [a2, a1, a0] from rfl] at ho ⊢
          generalize acc ++ [a2, a1, a0] = row at *
          go_wp2_with fail
          go_returns
          exact ⟨_, rfl, by rw [hds.out]; exact ho.out, hb.out⟩
end
section
set_option linter.unusedVariables false
/-- The path from a leaf to the root. -/
def pathG (hs : List Bs) (i : Nat) : List Bs :=
  if h : 2 ≤ hs.length then
    if i < splitN hs.length then pathG (hs.take (splitN hs.length)) i ++ [rootG (hs.drop (splitN hs.length))]
    else pathG (hs.drop (splitN hs.length)) (i - splitN hs.length) ++ [rootG (hs.take (splitN hs.length))]
  else []
termination_by hs.length
decreasing_by
  · have := splitN_lt hs.length h; rw [List.length_take]; omega
  · have := splitN_lt hs.length h; rw [List.length_drop]; omega
/-- The root that a path gives, and how much of the path it takes. -/
def climbG (n i : Nat) (at_ : Bs) (p : List Bs) : Option (Bs × Nat) :=
  if h : 2 ≤ n then
    if i < splitN n then
      match climbG (splitN n) i at_ p with
      | none => none
      | some (r, used) => if used < p.length then some (nodeH r (p.getD used []), used + 1) else none
    else
      match climbG (n - splitN n) (i - splitN n) at_ p with
      | none => none
      | some (r, used) => if used < p.length then some (nodeH (p.getD used []) r, used + 1) else none
  else some (at_, 0)
termination_by n
decreasing_by
  · have := splitN_lt n h; omega
  · have := splitN_lt n h; omega
theorem pathG_one (hs : List Bs) (i : Nat) (h : ¬ 2 ≤ hs.length) : pathG hs i = [] := by rw [pathG, dif_neg h]
theorem pathG_left (hs : List Bs) (i : Nat) (h : 2 ≤ hs.length) (hi : i < splitN hs.length) : pathG hs i = pathG (hs.take (splitN hs.length)) i ++ [rootG (hs.drop (splitN hs.length))] := by rw [pathG, dif_pos h, if_pos hi]
theorem pathG_right (hs : List Bs) (i : Nat) (h : 2 ≤ hs.length) (hi : ¬ i < splitN hs.length) : pathG hs i = pathG (hs.drop (splitN hs.length)) (i - splitN hs.length) ++ [rootG (hs.take (splitN hs.length))] := by rw [pathG, dif_pos h, if_neg hi]
theorem climbG_one (n i : Nat) (a : Bs) (p : List Bs) (h : ¬ 2 ≤ n) : climbG n i a p = some (a, 0) := by rw [climbG, dif_neg h]
theorem climbG_left (n i : Nat) (a : Bs) (p : List Bs) (h : 2 ≤ n) (hi : i < splitN n) : climbG n i a p = match climbG (splitN n) i a p with
    | none => none
    | some (r, used) => if used < p.length then some (nodeH r (p.getD used []), used + 1) else none := by rw [climbG, dif_pos h, if_pos hi]
theorem climbG_right (n i : Nat) (a : Bs) (p : List Bs) (h : 2 ≤ n) (hi : ¬ i < splitN n) : climbG n i a p = match climbG (n - splitN n) (i - splitN n) a p with
    | none => none
    | some (r, used) => if used < p.length then some (nodeH (p.getD used []) r, used + 1) else none := by rw [climbG, dif_pos h, if_neg hi]
theorem climbG_used (m : Nat) : ∀ (n i : Nat) (a : Bs) (p : List Bs) (r : Bs) (u : Nat), n ≤ m → climbG n i a p = some (r, u) → u ≤ p.length := by
  induction m with
  | zero =>
    intro n i a p r u hn h
    rw [climbG_one _ _ _ _ (by omega)] at h
    cases h; omega
  | succ m ih =>
    intro n i a p r u hn h
    by_cases h2 : 2 ≤ n
    · have hs := splitN_lt n h2
      by_cases hi : i < splitN n
      · rw [climbG_left _ _ _ _ h2 hi] at h
        split at h
        · cases h
        · split at h
          · cases h; omega
          · cases h
      · rw [climbG_right _ _ _ _ h2 hi] at h
        split at h
        · cases h
        · split at h
          · cases h; omega
          · cases h
    · rw [climbG_one _ _ _ _ h2] at h
      cases h; omega
theorem climbG_len (m : Nat) : ∀ (n i : Nat) (a : Bs) (p : List Bs) (r : Bs) (u : Nat), n ≤ m → climbG n i a p = some (r, u) → r = a ∨ r.length = 32 := by
  induction m with
  | zero =>
    intro n i a p r u hn h
    rw [climbG_one _ _ _ _ (by omega)] at h
    cases h; exact .inl rfl
  | succ m ih =>
    intro n i a p r u hn h
    by_cases h2 : 2 ≤ n
    · have hs := splitN_lt n h2
      by_cases hi : i < splitN n
      · rw [climbG_left _ _ _ _ h2 hi] at h
        split at h
        · cases h
        · split at h
          · cases h; exact .inr (sha_len _)
          · cases h
      · rw [climbG_right _ _ _ _ h2 hi] at h
        split at h
        · cases h
        · split at h
          · cases h; exact .inr (sha_len _)
          · cases h
    · rw [climbG_one _ _ _ _ h2] at h
      cases h; exact .inl rfl
/-- The path of a leaf leads to the root, whatever stands behind it. -/
theorem climb_path (m : Nat) : ∀ (hs : List Bs) (i : Nat) (more : List Bs), hs.length ≤ m → i < hs.length →
    climbG hs.length i (hs.getD i []) (pathG hs i ++ more) = some (rootG hs, (pathG hs i).length) := by
  induction m with
  | zero => intro hs i more h hi; omega
  | succ m ih =>
    intro hs i more hm hi
    by_cases h2 : 2 ≤ hs.length
    · have hsp := splitN_lt hs.length h2
      by_cases hk : i < splitN hs.length
      · have h1 := ih (hs.take (splitN hs.length)) i ([rootG (hs.drop (splitN hs.length))] ++ more) (by rw [List.length_take]; omega) (by rw [List.length_take]; omega)
        rw [List.length_take, Nat.min_eq_left (by omega)] at h1
        rw [show (hs.take (splitN hs.length)).getD i [] = hs.getD i [] from by rw [List.getD_eq_getElem?_getD, List.getElem?_take, if_pos hk, ← List.getD_eq_getElem?_getD]] at h1
        rw [pathG_left hs i h2 hk, climbG_left _ _ _ _ h2 hk, List.append_assoc, h1]
        simp only
        rw [if_pos (by simp), rootG_two hs h2]
        simp
      · have h1 := ih (hs.drop (splitN hs.length)) (i - splitN hs.length) ([rootG (hs.take (splitN hs.length))] ++ more) (by rw [List.length_drop]; omega) (by rw [List.length_drop]; omega)
        rw [List.length_drop] at h1
        rw [show (hs.drop (splitN hs.length)).getD (i - splitN hs.length) [] = hs.getD i [] from by rw [List.getD_eq_getElem?_getD, List.getElem?_drop, show splitN hs.length + (i - splitN hs.length) = i from by omega, ← List.getD_eq_getElem?_getD]] at h1
        rw [pathG_right hs i h2 hk, climbG_right _ _ _ _ h2 hk, List.append_assoc, h1]
        simp only
        rw [if_pos (by simp), rootG_two hs h2]
        simp
    · rw [pathG_one _ _ h2, climbG_one _ _ _ _ h2]
      match hs, hi, h2 with
      | [x], hi, _ =>
        obtain rfl : i = 0 := by simp at hi; omega
        rw [rootG_one]; rfl
      | x :: y :: l, _, h2 => exact absurd (by simp) h2
theorem pathG_el (m : Nat) : ∀ (hs : List Bs) (i : Nat), hs.length ≤ m → (∀ l ∈ hs, l.length = 32) → ∀ x ∈ pathG hs i, x.length = 32 := by
  induction m with
  | zero => intro hs i hm hl x hx; rw [pathG_one _ _ (by omega)] at hx; cases hx
  | succ m ih =>
    intro hs i hm hl x hx
    by_cases h2 : 2 ≤ hs.length
    · have hsp := splitN_lt hs.length h2
      have l1 : ∀ l ∈ hs.take (splitN hs.length), l.length = 32 := fun l h => hl l (List.mem_of_mem_take h)
      have l2 : ∀ l ∈ hs.drop (splitN hs.length), l.length = 32 := fun l h => hl l (List.mem_of_mem_drop h)
      by_cases hk : i < splitN hs.length
      · rw [pathG_left hs i h2 hk] at hx
        rcases List.mem_append.1 hx with hx | hx
        · exact ih _ i (by rw [List.length_take]; omega) l1 x hx
        · obtain rfl := List.mem_singleton.1 hx; exact rootG_len _ l2
      · rw [pathG_right hs i h2 hk] at hx
        rcases List.mem_append.1 hx with hx | hx
        · exact ih _ _ (by rw [List.length_drop]; omega) l2 x hx
        · obtain rfl := List.mem_singleton.1 hx; exact rootG_len _ l1
    · rw [pathG_one _ _ h2] at hx; cases hx
theorem pathG_short (hs : List Bs) (i : Nat) : (pathG hs i).length ≤ hs.length := by
  have : ∀ (m : Nat) (hs : List Bs) (i : Nat), hs.length ≤ m → (pathG hs i).length ≤ hs.length := by
    intro m
    induction m with
    | zero => intro hs i hm; rw [pathG_one _ _ (by omega)]; exact Nat.zero_le _
    | succ m ih =>
      intro hs i hm
      by_cases h2 : 2 ≤ hs.length
      · have hsp := splitN_lt hs.length h2
        by_cases hk : i < splitN hs.length
        · have h1 := ih (hs.take (splitN hs.length)) i (by rw [List.length_take]; omega)
          rw [List.length_take] at h1
          rw [pathG_left hs i h2 hk, List.length_append, List.length_singleton]; omega
        · have h1 := ih (hs.drop (splitN hs.length)) (i - splitN hs.length) (by rw [List.length_drop]; omega)
          rw [List.length_drop] at h1
          rw [pathG_right hs i h2 hk, List.length_append, List.length_singleton]; omega
      · rw [pathG_one _ _ h2]; exact Nat.zero_le _
  exact this _ hs i (Nat.le_refl _)
theorem splitN_pow (h : Nat) : splitN (2 ^ (h + 1)) = 2 ^ h := by
  have h1 : 1 ≤ 2 ^ h := Nat.pow_pos (by omega)
  exact splitN_of _ _ (by rw [Nat.pow_succ]; omega) (by rw [Nat.pow_succ]; omega) (by rw [Nat.pow_succ]; omega)
theorem pathG_len (h : Nat) : ∀ (hs : List Bs) (i : Nat), hs.length = 2 ^ h → (pathG hs i).length = h := by
  induction h with
  | zero => intro hs i hl; rw [pathG_one _ _ (by omega)]; rfl
  | succ h ih =>
    intro hs i hl
    have h1 : 1 ≤ 2 ^ h := Nat.pow_pos (by omega)
    have h2 : 2 ≤ hs.length := by rw [hl, Nat.pow_succ]; omega
    have hsp : splitN hs.length = 2 ^ h := by rw [hl, splitN_pow]
    by_cases hk : i < splitN hs.length
    · rw [pathG_left hs i h2 hk, List.length_append, ih _ _ (by rw [List.length_take, hsp, hl, Nat.pow_succ]; omega)]; rfl
    · rw [pathG_right hs i h2 hk, List.length_append, ih _ _ (by rw [List.length_drop, hsp, hl, Nat.pow_succ]; omega)]; rfl
/-- One-time signatures. -/
def signL (seed : Bs) (i : Nat) (d : Bs) : List Bs := (List.range 35).map fun c => chainH ((digs d).getD c 0) (otBegin seed i c)
def recEnds (d : Bs) (sig : List Bs) : Nat → Bs
  | 0 => []
  | n + 1 => recEnds d sig n ++ chainH (15 - (digs d).getD n 0) (sig.getD n [])
def recG (d : Bs) (sig : List Bs) : Bs := short (recEnds d sig 35)
theorem signL_len (seed : Bs) (i : Nat) (d : Bs) : (signL seed i d).length = 35 := by simp [signL]
theorem signL_get (seed : Bs) (i : Nat) (d : Bs) (c : Nat) (h : c < 35) : (signL seed i d).getD c [] = chainH ((digs d).getD c 0) (otBegin seed i c) := by
  rw [signL, List.getD_eq_getElem?_getD, List.getElem?_map, List.getElem?_range h]; rfl
theorem signL_el (seed : Bs) (i : Nat) (d : Bs) : ∀ x ∈ signL seed i d, x.length = 16 := by
  intro x hx
  obtain ⟨c, _, rfl⟩ := List.mem_map.1 hx
  exact chainH_len _ _ (short_len _)
theorem digs_get (d : Bs) (h : d.length = 16) (c : Nat) (hc : c < 35) : (digs d).getD c 0 < 16 := by
  have hl : c < (digs d).length := by rw [digs_len]; omega
  rw [List.getD_eq_getElem?_getD, List.getElem?_eq_getElem hl]
  exact digs_lt d h _ (List.getElem_mem hl)
theorem rec_sign (seed : Bs) (i : Nat) (d : Bs) (h : d.length = 16) : recG d (signL seed i d) = otPublic seed i := by
  have : ∀ n, n ≤ 35 → recEnds d (signL seed i d) n = otEnds seed i n := by
    intro n
    induction n with
    | zero => intro _; rfl
    | succ n ih =>
      intro hn
      have := digs_get d h n (by omega)
      rw [recEnds, otEnds, ih (by omega), signL_get _ _ _ _ (by omega), chainH_add, show (digs d).getD n 0 + (15 - (digs d).getD n 0) = 15 from by omega]
  rw [recG, otPublic, this 35 (Nat.le_refl _)]
/-- Signatures. -/
def hashesG (seed : Bs) (h : Nat) : List Bs := (leavesL seed (2 ^ h)).map leafH
def keyG (seed : Bs) (h : Nat) : Bs := rootG (hashesG seed h)
def digG (pub : Bs) (i : Nat) (m : Bs) : Bs := short (pub ++ putB 4 i ++ m)
def sigG (seed : Bs) (h i : Nat) (m : Bs) : Bs :=
  [UInt8.ofNat h] ++ putB 4 i ++ (signL seed i (digG (keyG seed h) i m)).flatten ++ (pathG (hashesG seed h) i).flatten
/-- The parts of so many bytes. -/
def cutL (size : Nat) : Nat → Bs → List Bs
  | 0, _ => []
  | n + 1, b => b.take size :: cutL size n (b.drop size)
theorem cutL_len (size n : Nat) (b : Bs) : (cutL size n b).length = n := by
  induction n generalizing b with
  | zero => rfl
  | succ n ih => rw [cutL, List.length_cons, ih]
theorem cutL_el (size n : Nat) : ∀ (b : Bs), b.length = size * n → ∀ x ∈ cutL size n b, x.length = size := by
  induction n with
  | zero => intro b hb x hx; cases hx
  | succ n ih =>
    intro b hb x hx
    rw [Nat.mul_succ] at hb
    rcases List.mem_cons.1 hx with rfl | hx
    · rw [List.length_take]; omega
    · exact ih (b.drop size) (by rw [List.length_drop]; omega) x hx
theorem cutL_flat (size : Nat) (ls : List Bs) (more : Bs) (h : ∀ x ∈ ls, x.length = size) : cutL size ls.length (ls.flatten ++ more) = ls := by
  induction ls with
  | nil => rfl
  | cons x ls ih =>
    have hx : x.length = size := h x (by simp)
    rw [List.length_cons, cutL, List.flatten_cons, List.append_assoc, List.take_append_of_le_length (by omega), List.take_of_length_le (by omega), List.drop_append_of_le_length (by omega), List.drop_of_length_le (by omega), List.nil_append, ih (fun y hy => h y (by simp [hy]))]
theorem flat_len (size : Nat) (ls : List Bs) (h : ∀ x ∈ ls, x.length = size) : ls.flatten.length = size * ls.length := by
  induction ls with
  | nil => rfl
  | cons x ls ih => rw [List.flatten_cons, List.length_append, ih (fun y hy => h y (by simp [hy])), h x (by simp), List.length_cons, Nat.mul_succ, Nat.add_comm]
structure Sig where
  height : Nat
  index : Nat
  elements : List Bs
  path : List Bs
/-- The parts of a signature. -/
def partsG (b : Bs) : Option Sig :=
  if b.length < 565 then none
  else if 6 < (b.getD 0 0).toNat ∨ 2 ^ (b.getD 0 0).toNat ≤ getB ((b.drop 1).take 4) ∨ b.length ≠ 565 + 32 * (b.getD 0 0).toNat then none
  else some ⟨(b.getD 0 0).toNat, getB ((b.drop 1).take 4), cutL 16 35 (b.drop 5), cutL 32 (b.getD 0 0).toNat (b.drop 565)⟩
def checkG (root : Bs) (n i : Nat) (leaf : Bs) (p : List Bs) : Bool :=
  match climbG n i (leafH leaf) p with
  | none => false
  | some (r, used) => decide (used = p.length) && decide (r = root)
def verifyG (pub m b : Bs) : Bool :=
  match partsG b with
  | none => false
  | some s => decide (pub.length = 32) && decide (m.length ≤ 65535) && checkG pub (2 ^ s.height) s.index (recG (digG pub s.index m) s.elements) s.path
theorem hashesG_len (seed : Bs) (h : Nat) : (hashesG seed h).length = 2 ^ h := by simp [hashesG, leavesL_len]
theorem hashesG_el (seed : Bs) (h : Nat) : ∀ l ∈ hashesG seed h, l.length = 32 := leafs_len _
theorem keyG_len (seed : Bs) (h : Nat) : (keyG seed h).length = 32 := rootG_len _ (hashesG_el seed h)
theorem hashesG_get (seed : Bs) (h i : Nat) (hi : i < 2 ^ h) : (hashesG seed h).getD i [] = leafH (otPublic seed i) := by
  rw [hashesG, leavesL, List.getD_eq_getElem?_getD, List.getElem?_map, List.getElem?_map, List.getElem?_range hi]; rfl
theorem getB_put4 (i : Nat) (h : i < 4294967296) : getB (putB 4 i) = i := by
  rw [getB_val, valB_put, show 256 ^ 4 = 4294967296 from rfl]; omega
theorem sigG_len (seed : Bs) (h i : Nat) (m : Bs) : (sigG seed h i m).length = 565 + 32 * h := by
  rw [sigG]
  simp only [List.length_append, List.length_cons, List.length_nil, putB_len]
  rw [flat_len 16 _ (signL_el _ _ _), signL_len, flat_len 32 _ (pathG_el _ _ _ (Nat.le_refl _) (hashesG_el seed h)), pathG_len h _ _ (hashesG_len seed h)]
theorem parts_sig (seed : Bs) (h i : Nat) (m : Bs) (hh : h ≤ 6) (hi : i < 2 ^ h) :
    partsG (sigG seed h i m) = some ⟨h, i, signL seed i (digG (keyG seed h) i m), pathG (hashesG seed h) i⟩ := by
  have h64 := pow_le64 h hh
  have hl := sigG_len seed h i m
  have e0 : (sigG seed h i m).getD 0 0 = UInt8.ofNat h := rfl
  have t0 : (UInt8.ofNat h).toNat = h := by simp; omega
  have e1 : ((sigG seed h i m).drop 1).take 4 = putB 4 i := by
    have := putB_len 4 i
    rw [sigG, List.append_assoc, List.append_assoc, List.singleton_append, List.drop_succ_cons, List.drop_zero, List.take_append_of_le_length (by omega), List.take_of_length_le (by omega)]
  have h5 : ([UInt8.ofNat h] ++ putB 4 i).length = 5 := by simp [putB_len]
  have e2 : (sigG seed h i m).drop 5 = (signL seed i (digG (keyG seed h) i m)).flatten ++ (pathG (hashesG seed h) i).flatten := by
    rw [sigG, List.append_assoc, List.drop_append_of_le_length (by omega), List.drop_of_length_le (by omega), List.nil_append]
  have hf := flat_len 16 _ (signL_el seed i (digG (keyG seed h) i m))
  rw [signL_len] at hf
  have e3 : (sigG seed h i m).drop 565 = (pathG (hashesG seed h) i).flatten := by
    rw [show (565 : Nat) = 5 + 560 from rfl, ← List.drop_drop, e2, List.drop_append_of_le_length (by omega), List.drop_of_length_le (by omega), List.nil_append]
  have hp := cutL_flat 32 (pathG (hashesG seed h) i) [] (pathG_el _ _ _ (Nat.le_refl _) (hashesG_el seed h))
  rw [pathG_len h _ _ (hashesG_len seed h), List.append_nil] at hp
  have hs := cutL_flat 16 (signL seed i (digG (keyG seed h) i m)) (pathG (hashesG seed h) i).flatten (signL_el _ _ _)
  rw [signL_len] at hs
  rw [partsG, if_neg (by omega), e0, t0, e1, getB_put4 i (by omega), if_neg (by omega), e2, e3, hp, hs]
theorem verify_sig (seed : Bs) (h i : Nat) (m : Bs) (hh : h ≤ 6) (hi : i < 2 ^ h) (hm : m.length ≤ 65535) : verifyG (keyG seed h) m (sigG seed h i m) = true := by
  have hc := climb_path _ (hashesG seed h) i [] (Nat.le_refl _) (by rw [hashesG_len]; exact hi)
  rw [hashesG_len, hashesG_get _ _ _ hi, List.append_nil] at hc
  rw [verifyG, parts_sig seed h i m hh hi]
  simp only
  rw [rec_sign _ _ _ (show (digG (keyG seed h) i m).length = 16 from short_len _), checkG, hc]
  have hk := keyG_len seed h
  unfold keyG at hk ⊢
  simp [hm, hk]
end
section
open Go.RowKit
set_option linter.unusedVariables false
attribute [local go_sem ↓] Go.wp_at_zero Go.wp_at_succ
set_option maxRecDepth 100000 in
theorem path_any (m : Nat) : ∀ (ls : List Bs) (i : Nat) (B : Nat) (u : Value) (w : World), ls.length ≤ m → i < ls.length → SeesL w B u ls → B ≤ w.heap.size → ls.length ≤ 1024 → (∀ l ∈ ls, l.length = 32) →
    Calls Tryz.prog 84 #[u, .int .i64 (i : Int)] w (GivesL (pathG ls i) w) := by
  induction m with
  | zero => intro ls i B u w hm hi; omega
  | succ m ih =>
    intro ls i B u w hm hi hu hB hn hl
    by_cases h0 : ls.length ≤ m
    · exact ih ls i B u w h0 hi hu hB hn hl
    · have hlen : ls.length = m + 1 := by omega
      by_cases h2 : 2 ≤ ls.length
      · obtain ⟨A, c, rfl, hc1, hc2⟩ := hu.mk_
        obtain ⟨k1, k2, k3⟩ := splitN_lt ls.length h2
        have hdv := divide_any A ls.length c w h2 hn hc1 hc2
        unfold DividePost at hdv
        have p1 := Lib.hid (fun h => pathG_left ls i h2 h)
        have p2 := Lib.hid (fun h => pathG_right ls i h2 h)
        generalize splitN ls.length = k at *
        obtain ⟨b, o, rfl, hbB, -⟩ := hu.at_ (by omega)
        have c1 := SeesL.cut (a := 0) (b := k) hu (by omega) (by omega)
        have c2 := SeesL.cut (a := k) (b := ls.length) hu (by omega) (Nat.le_refl _)
        rw [cutA_zero, Nat.sub_zero, Nat.sub_zero, List.drop_zero] at c1
        rw [List.take_of_length_le (by rw [List.length_drop]; omega)] at c2
        generalize cutA (some ⟨b, o, none⟩) c k 1 = A2 at hdv c2
        have l1 : ∀ x ∈ ls.take k, x.length = 32 := fun x hx => hl x (List.mem_of_mem_take hx)
        have l2 : ∀ x ∈ ls.drop k, x.length = 32 := fun x hx => hl x (List.mem_of_mem_drop hx)
        have n1 : (ls.take k).length = k := by rw [List.length_take]; omega
        have n2 : (ls.drop k).length = ls.length - k := by rw [List.length_drop]
        have q1 := Lib.hid (rootG_len _ l1)
        have q2 := Lib.hid (rootG_len _ l2)
        replace hdv := Lib.hid hdv
        have hlm := Lib.hid hlen
        have hplen : ∀ j, Hid ((pathG (ls.take k) j).length ≤ 1024 ∧ (pathG (ls.drop k) j).length ≤ 1024) := fun j => ⟨Nat.le_trans (pathG_short _ _) (by omega), Nat.le_trans (pathG_short _ _) (by omega)⟩
        have j4 : ¬ ((ls.length : Int) = 1) := by omega
        by_cases hk : i < k
        · have g1 := Lib.hid (fun q => ih (ls.take k) i B _ (w.drewN q) (by omega) (by omega) (SeesL.below c1 (below_drewN (Below.refl B w) q)) hB (by omega) l1)
          have g2 := Lib.hid (fun (W : World) (hbW : Below w.heap.size w W) => root_any _ (ls.drop k) B _ W (Nat.le_refl _) (SeesL.below c2 (hbW.mono hB)) (Nat.le_trans hB hbW.size) (by omega) l2)
          have i0 : (i : Int) < (k : Int) := by omega
          replace p1 := Lib.hid (p1.out hk)
          have hp := Lib.hid (hplen i).out.1
          clear ih c1 c2 hu hlen hl l1 l2 n1 n2 p2 hplen
          generalize pathG (ls.take k) i = P at *
          generalize rootG (ls.drop k) = R at *
          generalize rootG (ls.take k) = R' at *
          go_enter Tryz.func84, Tryz.ntmps84
          go_wp2_with fail
          refine hdv.out.mono ?_
          rintro e w0 ⟨rfl, q, rfl⟩
          dsimp only
          go_wp2_with fail
          refine (g1.out q).mono ?_
          rintro e w1 ⟨v1, rfl, h1, hb1⟩
          have hb1' : Below w.heap.size w w1 := (below_drewN (Below.refl _ _) q).trans hb1
          dsimp only
          go_wp2_with fail
          refine (g2.out w1 hb1').mono ?_
          rintro e w2 ⟨v2, rfl, h2', hb2⟩
          have hw2 := bgo hb1' hb2
          have ho2 := h1.below hb2
          have hel := Elt.of_from (v := v1) h2'.sees h2'.from (fun k hk => (h1.lt k hk).2)
          have hal := balloc w2 (.cells #[v2] 23)
          have hcell := Lib.hid (one_cell w2 v2 23)
          obtain ⟨A9, c9, rfl, -, -⟩ := h2'.sees.mk_
          obtain ⟨A8, c8, rfl⟩ := h1.shape
          replace ho2 := Lib.hid (ho2.below hal)
          replace hel := Lib.hid (hel.below hal)
          have hb3 := Lib.hid (bgo hw2 hal)
          clear hb2 hb1 hb1' hw2 h1 h2' hal g1 g2
          dsimp only
          go_wp2_with (at_builtin; refine wpList_appL (by rfl) _ _ 35 Tryz.underlying35 rfl w.heap.size _ P rfl ho2.out _ _ _ R rfl hcell.out hel.out (by have := hp.out; omega) hb3.out.size ?_)
          intro v' w' hW2 hb4
          have hW2 := Lib.hid hW2
          have hb4 := Lib.hid hb4
          go_wp2_with fail
          go_ret
          exact ⟨_, rfl, by rw [p1.out]; exact hW2.out, hb3.out.trans hb4.out⟩
        · have g1 := Lib.hid (fun q => ih (ls.drop k) (i - k) B _ (w.drewN q) (by omega) (by omega) (SeesL.below c2 (below_drewN (Below.refl B w) q)) hB (by omega) l2)
          have g2 := Lib.hid (fun (W : World) (hbW : Below w.heap.size w W) => root_any _ (ls.take k) B _ W (Nat.le_refl _) (SeesL.below c1 (hbW.mono hB)) (Nat.le_trans hB hbW.size) (by omega) l1)
          have i0 : ¬ ((i : Int) < (k : Int)) := by omega
          have i1 : (k : Int) ≤ (i : Int) := by omega
          have i2 : Hid (((i - k : Nat) : Int) = (i : Int) - (k : Int)) := by show _ = _; omega
          rw [i2.out] at g1
          replace p2 := Lib.hid (p2.out hk)
          have hp := Lib.hid (hplen (i - k)).out.2
          clear ih c1 c2 hu hlen hl l1 l2 n1 n2 p1 hplen
          generalize pathG (ls.drop k) (i - k) = P at *
          generalize rootG (ls.drop k) = R' at *
          generalize rootG (ls.take k) = R at *
          go_enter Tryz.func84, Tryz.ntmps84
          go_wp2_with fail
          refine hdv.out.mono ?_
          rintro e w0 ⟨rfl, q, rfl⟩
          dsimp only
          go_wp2_with fail
          refine (g1.out q).mono ?_
          rintro e w1 ⟨v1, rfl, h1, hb1⟩
          have hb1' : Below w.heap.size w w1 := (below_drewN (Below.refl _ _) q).trans hb1
          dsimp only
          go_wp2_with fail
          refine (g2.out w1 hb1').mono ?_
          rintro e w2 ⟨v2, rfl, h2', hb2⟩
          have hw2 := bgo hb1' hb2
          have ho2 := h1.below hb2
          have hel := Elt.of_from (v := v1) h2'.sees h2'.from (fun k hk => (h1.lt k hk).2)
          have hal := balloc w2 (.cells #[v2] 23)
          have hcell := Lib.hid (one_cell w2 v2 23)
          obtain ⟨A9, c9, rfl, -, -⟩ := h2'.sees.mk_
          obtain ⟨A8, c8, rfl⟩ := h1.shape
          replace ho2 := Lib.hid (ho2.below hal)
          replace hel := Lib.hid (hel.below hal)
          have hb3 := Lib.hid (bgo hw2 hal)
          clear hb2 hb1 hb1' hw2 h1 h2' hal g1 g2
          dsimp only
          go_wp2_with (at_builtin; refine wpList_appL (by rfl) _ _ 35 Tryz.underlying35 rfl w.heap.size _ P rfl ho2.out _ _ _ R rfl hcell.out hel.out (by have := hp.out; omega) hb3.out.size ?_)
          intro v' w' hW2 hb4
          have hW2 := Lib.hid hW2
          have hb4 := Lib.hid hb4
          go_wp2_with fail
          go_ret
          exact ⟨_, rfl, by rw [p2.out]; exact hW2.out, hb3.out.trans hb4.out⟩
      · have h1 : ls.length = 1 := by omega
        have hp : pathG ls i = [] := pathG_one _ _ h2
        obtain ⟨A, c, rfl, hc1, hc2⟩ := hu.mk_
        rw [h1] at hc1 ⊢
        rw [hp]
        clear hu ih hl hlen hp h1
        go_enter Tryz.func84, Tryz.ntmps84
        go_wp2_with fail
        go_ret
        exact ⟨_, rfl, OwnL.nil _ _, Below.refl _ _⟩
def PathPost (hs : List Bs) (i : Nat) (w : World) (e : Ending) (w' : World) : Prop :=
  ∃ v, e = .returned (.tuple #[v, .int .i64 0]) ∧ OwnL w' w.heap.size v (pathG hs i) ∧ Below w.heap.size w w'
theorem path_top (ls : List Bs) (i : Nat) (B : Nat) (u : Value) (w : World) (hu : SeesL w B u ls) (hi : i < ls.length) (hB : B ≤ w.heap.size) (hn : ls.length ≤ 1024) (hl : ∀ l ∈ ls, l.length ≤ 1048576) :
    Calls Tryz.prog 46 #[u, .int .i64 (i : Int)] w (PathPost (ls.map leafH) i w) := by
  have hs := Lib.hid (of_any ls B u w hu hB hn hl)
  obtain ⟨A, c, rfl, hc1, hc2⟩ := hu.mk_
  have j0 : ¬ ((1024 : Int) < (ls.length : Int)) := by omega
  have j1 : ¬ ((i : Int) < 0) := by omega
  have j2 : ¬ ((ls.length : Int) ≤ (i : Int)) := by omega
  clear hu hl
  go_enter Tryz.func46, Tryz.ntmps46
  go_wp2_with fail
  refine hs.out.mono ?_
  rintro e w1 ⟨v, rfl, h1, hb1⟩
  dsimp only
  go_wp2_with fail
  refine (path_any _ _ i _ _ _ (Nat.le_refl _) (by rw [List.length_map]; exact hi) h1 (Nat.le_refl _) (by rw [List.length_map]; exact hn) (leafs_len ls)).mono ?_
  rintro e w2 ⟨v2, rfl, h2, hb2⟩
  dsimp only
  go_wp2_with fail
  go_returns
  exact ⟨v2, rfl, h2.mono hb1.size, bgo hb1 hb2⟩
end
section
open Go.RowKit
set_option linter.unusedVariables false
attribute [local go_sem ↓] Go.wp_at_zero Go.wp_at_succ
set_option maxRecDepth 100000 in
theorem rpath_any (m : Nat) : ∀ (ls : List Bs) (i : Nat) (B : Nat) (u : Value) (w : World), ls.length ≤ m → i < ls.length → SeesL w B u ls → B ≤ w.heap.size → ls.length ≤ 1024 → (∀ l ∈ ls, l.length ≤ 1048576) →
    Calls Tryz.prog 94 #[u, .int .i64 (i : Int)] w (GivesL (pathG (ls.map leafH) i) w) := by
  induction m with
  | zero => intro ls i B u w hm hi; omega
  | succ m ih =>
    intro ls i B u w hm hi hu hB hn hl
    by_cases h0 : ls.length ≤ m
    · exact ih ls i B u w h0 hi hu hB hn hl
    · have hlen : ls.length = m + 1 := by omega
      by_cases h2 : 2 ≤ ls.length
      · obtain ⟨A, c, rfl, hc1, hc2⟩ := hu.mk_
        obtain ⟨k1, k2, k3⟩ := splitN_lt ls.length h2
        have hsp := Lib.hid (split_any ls.length w h2 (by omega))
        have p1 := fun h => pathG_left (ls.map leafH) i (by rw [List.length_map]; exact h2) h
        have p2 := fun h => pathG_right (ls.map leafH) i (by rw [List.length_map]; exact h2) h
        rw [List.length_map, ← List.map_take, ← List.map_drop] at p1 p2
        replace p1 := Lib.hid p1
        replace p2 := Lib.hid p2
        generalize splitN ls.length = k at *
        obtain ⟨b, o, rfl, hbB, -⟩ := hu.at_ (by omega)
        have c1 := SeesL.cut (a := 0) (b := k) hu (by omega) (by omega)
        have c2 := SeesL.cut (a := k) (b := ls.length) hu (by omega) (Nat.le_refl _)
        rw [cutA_zero, Nat.sub_zero, Nat.sub_zero, List.drop_zero] at c1
        rw [List.take_of_length_le (by rw [List.length_drop]; omega)] at c2
        have r2 := run_cut_from (P := Tryz.prog) 35 Tryz.underlying35 1 slice_size (some ⟨b, o, none⟩) ls.length c .i64 (k : Int) (by omega) (by omega)
        rw [Int.toNat_natCast] at r2
        generalize cutA (some ⟨b, o, none⟩) c k 1 = A2 at r2 c2
        have l1 : ∀ x ∈ ls.take k, x.length ≤ 1048576 := fun x hx => hl x (List.mem_of_mem_take hx)
        have l2 : ∀ x ∈ ls.drop k, x.length ≤ 1048576 := fun x hx => hl x (List.mem_of_mem_drop hx)
        have n1 : (ls.take k).length = k := by rw [List.length_take]; omega
        have n2 : (ls.drop k).length = ls.length - k := by rw [List.length_drop]
        have q1 := Lib.hid (rootG_len _ (leafs_len (ls.take k)))
        have q2 := Lib.hid (rootG_len _ (leafs_len (ls.drop k)))
        have hlm := Lib.hid hlen
        have hplen : ∀ j, Hid ((pathG ((ls.take k).map leafH) j).length ≤ 1024 ∧ (pathG ((ls.drop k).map leafH) j).length ≤ 1024) := fun j => ⟨Nat.le_trans (pathG_short _ _) (by rw [List.length_map]; omega), Nat.le_trans (pathG_short _ _) (by rw [List.length_map]; omega)⟩
        have j4 : ¬ ((ls.length : Int) = 1) := by omega
        have j0 : (0 : Int) ≤ (k : Int) := by omega
        have j1 : (k : Int) ≤ (c : Int) := by omega
        have j2 : (k : Int) ≤ (ls.length : Int) := by omega
        by_cases hk : i < k
        · have g1 := Lib.hid (ih (ls.take k) i B _ w.drew (by omega) (by omega) (SeesL.below c1 (Below.refl B w).drew) hB (by omega) l1)
          have g2 := Lib.hid (fun (W : World) (hbW : Below w.heap.size w W) => rroot_any _ (ls.drop k) B _ W (Nat.le_refl _) (SeesL.below c2 (hbW.mono hB)) (Nat.le_trans hB hbW.size) (by omega) l2)
          have i0 : (i : Int) < (k : Int) := by omega
          replace p1 := Lib.hid (p1.out hk)
          have hp := Lib.hid (hplen i).out.1
          clear ih c1 c2 hu hlen hl l1 l2 n1 n2 p2 hplen
          generalize pathG ((ls.take k).map leafH) i = P at *
          generalize rootG ((ls.drop k).map leafH) = R at *
          generalize rootG ((ls.take k).map leafH) = R' at *
          go_enter Tryz.func94, Tryz.ntmps94
          go_wp2_with fail
          refine hsp.out.mono ?_
          rintro e w0 ⟨rfl, rfl⟩
          dsimp only
          go_wp2_with fail
          go_region_held3 (fun W' : World => True) (trivial)
            (first
              | (refine step_appL (by rfl) _ _ 35 Tryz.underlying35 (by rfl) w0.heap.size _ P (by rfl) ho2.out _ _ _ R (by rfl) hcell.out hel.out (by have := hp.out; omega) hb3.out.size ?_; intro v' w' hW2 hb4)
              | (go_at_call 67; refine (g2.out _ (bgo (bdrew _) hb1)).mono ?_; rintro e w2 ⟨v2, rfl, h2', hb2⟩; obtain ⟨A9, c9, rfl, -, -⟩ := h2'.sees.mk_
                 have hw2 := bgo (bgo (bdrew _) hb1) hb2
                 have hel := Elt.of_from (v := .slice A8 P.length c8) h2'.sees h2'.from (fun k hk => (h1.lt k hk).2)
                 have hcell := Lib.hid (one_cell w2 (.slice A9 R.length c9) 23)
                 have ho2 := Lib.hid ((h1.below hb2).below (balloc w2 (.cells #[.slice A9 R.length c9] 23)))
                 replace hel := Lib.hid (hel.below (balloc w2 (.cells #[.slice A9 R.length c9] 23)))
                 have hb3 := Lib.hid (bgo hw2 (balloc w2 (.cells #[.slice A9 R.length c9] 23)))
                 clear hb2 hw2 h2')
              | (go_at_call 94; refine g1.out.mono ?_; rintro e w1 ⟨v1, rfl, h1, hb1⟩; obtain ⟨A8, c8, rfl⟩ := h1.shape))
          all_goals
            go_wp2_with fail
            go_ret
            exact ⟨v', rfl, by rw [p1.out]; exact hW2, hb3.out.trans hb4⟩
        · have g1 := Lib.hid (ih (ls.drop k) (i - k) B _ w.drew (by omega) (by omega) (SeesL.below c2 (Below.refl B w).drew) hB (by omega) l2)
          have g2 := Lib.hid (fun (W : World) (hbW : Below w.heap.size w W) => rroot_any _ (ls.take k) B _ W (Nat.le_refl _) (SeesL.below c1 (hbW.mono hB)) (Nat.le_trans hB hbW.size) (by omega) l1)
          have i0 : ¬ ((i : Int) < (k : Int)) := by omega
          have i1 : IntKind.i64.wrap ((i : Int) - (k : Int)) = ((i - k : Nat) : Int) := by rw [IntKind.wrap_i64]; omega
          replace p2 := Lib.hid (p2.out hk)
          have hp := Lib.hid (hplen (i - k)).out.2
          clear ih c1 c2 hu hlen hl l1 l2 n1 n2 p1 hplen
          generalize pathG ((ls.drop k).map leafH) (i - k) = P at *
          generalize rootG ((ls.drop k).map leafH) = R' at *
          generalize rootG ((ls.take k).map leafH) = R at *
          go_enter Tryz.func94, Tryz.ntmps94
          go_wp2_with fail
          refine hsp.out.mono ?_
          rintro e w0 ⟨rfl, rfl⟩
          dsimp only
          go_wp2_with fail
          go_region_held3 (fun W' : World => True) (trivial)
            (first
              | (refine step_appL (by rfl) _ _ 35 Tryz.underlying35 (by rfl) w0.heap.size _ P (by rfl) ho2.out _ _ _ R (by rfl) hcell.out hel.out (by have := hp.out; omega) hb3.out.size ?_; intro v' w' hW2 hb4)
              | (go_at_call 67; refine (g2.out _ (bgo (bdrew _) hb1)).mono ?_; rintro e w2 ⟨v2, rfl, h2', hb2⟩; obtain ⟨A9, c9, rfl, -, -⟩ := h2'.sees.mk_
                 have hw2 := bgo (bgo (bdrew _) hb1) hb2
                 have hel := Elt.of_from (v := .slice A8 P.length c8) h2'.sees h2'.from (fun k hk => (h1.lt k hk).2)
                 have hcell := Lib.hid (one_cell w2 (.slice A9 R.length c9) 23)
                 have ho2 := Lib.hid ((h1.below hb2).below (balloc w2 (.cells #[.slice A9 R.length c9] 23)))
                 replace hel := Lib.hid (hel.below (balloc w2 (.cells #[.slice A9 R.length c9] 23)))
                 have hb3 := Lib.hid (bgo hw2 (balloc w2 (.cells #[.slice A9 R.length c9] 23)))
                 clear hb2 hw2 h2')
              | (go_at_call 94; refine g1.out.mono ?_; rintro e w1 ⟨v1, rfl, h1, hb1⟩; obtain ⟨A8, c8, rfl⟩ := h1.shape))
          all_goals
            go_wp2_with fail
            go_ret
            exact ⟨v', rfl, by rw [p2.out]; exact hW2, hb3.out.trans hb4⟩
      · have h1 : ls.length = 1 := by omega
        have hp : pathG (ls.map leafH) i = [] := pathG_one _ _ (by rw [List.length_map]; exact h2)
        obtain ⟨A, c, rfl, hc1, hc2⟩ := hu.mk_
        rw [h1] at hc1 ⊢
        rw [hp]
        clear hu ih hl hlen hp h1
        go_enter Tryz.func94, Tryz.ntmps94
        go_wp2_with fail
        go_ret
        exact ⟨_, rfl, OwnL.nil _ _, Below.refl _ _⟩
theorem rpath_top (ls : List Bs) (i : Nat) (B : Nat) (u : Value) (w : World) (hu : SeesL w B u ls) (hi : i < ls.length) (hB : B ≤ w.heap.size) (hn : ls.length ≤ 1024) (hl : ∀ l ∈ ls, l.length ≤ 1048576) :
    Calls Tryz.prog 63 #[u, .int .i64 (i : Int)] w (PathPost (ls.map leafH) i w) := by
  have hs := Lib.hid (rpath_any _ ls i B u w (Nat.le_refl _) hi hu hB hn hl)
  obtain ⟨A, c, rfl, hc1, hc2⟩ := hu.mk_
  have j0 : ¬ ((1024 : Int) < (ls.length : Int)) := by omega
  have j1 : ¬ ((i : Int) < 0) := by omega
  have j2 : ¬ ((ls.length : Int) ≤ (i : Int)) := by omega
  clear hu hl
  go_enter Tryz.func63, Tryz.ntmps63
  go_wp2_with fail
  refine hs.out.mono ?_
  rintro e w1 ⟨v, rfl, h1, hb1⟩
  dsimp only
  go_wp2_with fail
  go_returns
  exact ⟨v, rfl, h1, hb1⟩
end
section
open Go.RowKit
set_option linter.unusedVariables false
attribute [local go_sem ↓] Go.wp_at_zero Go.wp_at_succ
def ClimbSome (r : Bs) (rest : List Bs) (w : World) (e : Ending) (w' : World) : Prop :=
  ∃ v v2, e = .returned (.tuple #[v, v2, .bool true]) ∧ SeesB w' w'.heap.size v r ∧ SeesL w' w'.heap.size v2 rest ∧ Below w.heap.size w w'
def ClimbNone (w : World) (e : Ending) (w' : World) : Prop :=
  e = .returned (.tuple #[.slice none 0 0, .slice none 0 0, .bool false]) ∧ Below w.heap.size w w'
def ClimbPost (x : Option (Bs × Nat)) (p : List Bs) (w : World) (e : Ending) (w' : World) : Prop :=
  match x with
  | none => ClimbNone w e w'
  | some (r, used) => ClimbSome r (p.drop used) w e w'
theorem SeesL.more {w : World} {B B' : Nat} {u : Value} {ls : List Bs} (h : SeesL w B u ls) (hB : B ≤ B') : SeesL w B' u ls := by
  obtain ⟨vs, hs, hv⟩ := h
  exact ⟨vs, hs.more hB, fun k hk => by obtain ⟨v, h1, h2⟩ := hv k hk; exact ⟨v, h1, h2.more hB⟩⟩
theorem drop_head (p : List Bs) (u : Nat) (h : u < p.length) : (p.drop u).getD 0 [] = p.getD u [] ∧ (p.drop u).length = p.length - u ∧ 0 < (p.drop u).length ∧ (p.drop u).drop 1 = p.drop (u + 1) := by
  refine ⟨by rw [List.getD_eq_getElem?_getD, List.getElem?_drop, Nat.add_zero, ← List.getD_eq_getElem?_getD], by rw [List.length_drop], by rw [List.length_drop]; omega, by rw [List.drop_drop]⟩
set_option maxRecDepth 100000 in
theorem climb_any (m : Nat) : ∀ (n i : Nat) (a : Bs) (p : List Bs) (B : Nat) (u u2 : Value) (w : World), n ≤ m → 1 ≤ n → i < n → n ≤ 1024 → SeesB w B u a → SeesL w B u2 p → B ≤ w.heap.size → a.length ≤ 1048576 → (∀ l ∈ p, l.length ≤ 1048576) →
    Calls Tryz.prog 124 #[.int .i64 (n : Int), .int .i64 (i : Int), u, u2] w (ClimbPost (climbG n i a p) p w) := by
  induction m with
  | zero => intro n i a p B u u2 w hm h1; omega
  | succ m ih =>
    intro n i a p B u u2 w hm h1 hi hn hu hu2 hB ha hp
    obtain ⟨A, c, rfl, hc1, hc2⟩ := hu.mk_
    obtain ⟨AA, cc, rfl, hc3, hc4⟩ := hu2.mk_
    by_cases h2 : 2 ≤ n
    · obtain ⟨k1, k2, k3⟩ := splitN_lt n h2
      have hsp := Lib.hid (half_any n w h2 hn)
      have p1 := Lib.hid (climbG_left n i a p h2)
      have p2 := Lib.hid (climbG_right n i a p h2)
      have hlen := fun k j r x h => climbG_len n k j a p r x h
      generalize splitN n = k at *
      have j4 : ¬ ((n : Int) = 1) := by omega
      by_cases hk : i < k
      · have g1 := ih k i a p B _ _ w (by omega) (by omega) hk (by omega) hu hu2 hB ha hp
        have i0 : (i : Int) < (k : Int) := by omega
        replace p1 := Lib.hid (p1.out hk)
        have hlen := hlen k i
        clear ih p2 hu hu2
        rw [p1.out]
        rcases hcl : climbG k i a p with _ | ⟨r, used⟩
        · rw [hcl] at g1
          replace g1 := Lib.hid g1
          clear p1 hcl hlen
          go_enter Tryz.func124, Tryz.ntmps124
          go_wp2_with fail
          refine hsp.out.mono ?_
          rintro e w0 ⟨rfl, rfl⟩
          dsimp only
          go_wp2_with fail
          refine g1.out.mono ?_
          rintro e w1 ⟨rfl, hb1⟩
          dsimp only
          go_wp2_with fail
          go_returns
          exact ⟨rfl, hb1⟩
        · rw [hcl] at g1
          have hr : r.length ≤ 1048576 := by rcases hlen r used (by omega) hcl with rfl | h <;> omega
          replace g1 : Hid (Calls _ _ _ _ (ClimbSome r (p.drop used) w)) := g1
          clear p1 hcl hlen
          dsimp only
          by_cases hus : used < p.length
          · obtain ⟨d1, d2, d3, d4⟩ := drop_head p used hus
            have hx : (p.getD used []).length ≤ 1048576 := by rw [List.getD_eq_getElem?_getD, List.getElem?_eq_getElem hus]; exact hp _ (List.getElem_mem hus)
            rw [if_pos hus]
            show Calls _ _ _ _ (ClimbSome _ (p.drop (used + 1)) w)
            rw [← d4]
            rw [← d1] at hx ⊢
            generalize p.drop used = q at *
            clear d1 d2 d4 hp hus
            replace hx := Lib.hid hx
            replace hr := Lib.hid hr
            go_enter Tryz.func124, Tryz.ntmps124
            go_wp2_with fail
            refine hsp.out.mono ?_
            rintro e w0 ⟨rfl, rfl⟩
            dsimp only
            go_wp2_with fail
            refine g1.out.mono ?_
            rintro e w1 ⟨v, v2, rfl, hv, hv2, hb1⟩
            obtain ⟨A3, c3, rfl, e1, e2⟩ := hv.mk_
            obtain ⟨A4, c4, rfl, e3, e4⟩ := hv2.mk_
            have hcut := SeesL.cut (a := 1) (b := q.length) hv2 (by omega) (Nat.le_refl _)
            rw [List.take_of_length_le (by rw [List.length_drop]; omega)] at hcut
            obtain ⟨b, o, rfl, hbB, hcell⟩ := hv2.at_ d3
            obtain ⟨A5, c5, x0, -, -, hsee⟩ := hcell 0 d3
            rw [Nat.add_zero] at x0
            have r2 := run_cut_from (P := Tryz.prog) 35 Tryz.underlying35 1 slice_size (some ⟨b, o, none⟩) q.length c4 .i64 1 (by omega) (by omega)
            rw [show (1 : Int).toNat = 1 from rfl] at r2
            generalize cutA (some ⟨b, o, none⟩) c4 1 1 = A2 at r2 hcut
            have hnd := Lib.hid (node_any w1.heap.size _ _ r _ w1.drew hv hsee (Nat.le_refl _) (Nat.le_trans hr.out (by omega)) (Nat.le_trans hx.out (by omega)))
            generalize q.getD 0 [] = x at *
            have t0 : ((q.length : Int) == 0) = false := by rw [beq_eq_false_iff_ne]; omega
            have t1 : (0 : Int) < (q.length : Int) := by omega
            have t2 : (1 : Int) ≤ (q.length : Int) := by omega
            replace hcut := Lib.hid hcut
            replace hb1 := Lib.hid hb1
            clear hv hv2 hcell hsee
            dsimp only
            go_wp2_with fail
            go_region_held3 (fun W' : World => W'.cell? ⟨b, o, none⟩ = some (.slice A5 x.length c5)) (first | (go_keep; done) | exact ((hb3.cell (p := ⟨b, o, none⟩) hbB).trans x0))
              (first
                | (go_at_call 126; refine hnd.out.mono ?_; rintro e w2 ⟨v3, rfl, h3, hb3⟩))
            all_goals
              go_wp2_with fail
              go_returns
              have hw := (bdrew w1).trans hb3
              exact ⟨v3, _, rfl, h3.sees, (hcut.out.below hw).more hw.size, bgo hb1.out hw⟩
          · rw [if_neg hus]
            have hq : (p.drop used).length = 0 := by rw [List.length_drop]; omega
            generalize p.drop used = q at *
            replace hq := Lib.hid hq
            clear hp hus
            go_enter Tryz.func124, Tryz.ntmps124
            go_wp2_with fail
            refine hsp.out.mono ?_
            rintro e w0 ⟨rfl, rfl⟩
            dsimp only
            go_wp2_with fail
            refine g1.out.mono ?_
            rintro e w1 ⟨v, v2, rfl, hv, hv2, hb1⟩
            obtain ⟨A3, c3, rfl, e1, e2⟩ := hv.mk_
            obtain ⟨A4, c4, rfl, e3, e4⟩ := hv2.mk_
            rw [hq.out]
            clear hv hv2
            dsimp only
            go_wp2_with fail
            go_returns
            exact ⟨rfl, hb1⟩
      · have g1 := ih (n - k) (i - k) a p B _ _ w (by omega) (by omega) (by omega) (by omega) hu hu2 hB ha hp
        have i0 : ¬ ((i : Int) < (k : Int)) := by omega
        have i1 : (k : Int) ≤ (i : Int) := by omega
        have i2 : (k : Int) ≤ (n : Int) := by omega
        have i3 : Hid (((i - k : Nat) : Int) = (i : Int) - (k : Int)) := by show _ = _; omega
        have i4 : Hid (((n - k : Nat) : Int) = (n : Int) - (k : Int)) := by show _ = _; omega
        rw [i3.out, i4.out] at g1
        replace p1 := Lib.hid (p2.out hk)
        have hlen := hlen (n - k) (i - k)
        clear ih p2 hu hu2
        rw [p1.out]
        rcases hcl : climbG (n - k) (i - k) a p with _ | ⟨r, used⟩
        · rw [hcl] at g1
          replace g1 := Lib.hid g1
          clear p1 hcl hlen
          go_enter Tryz.func124, Tryz.ntmps124
          go_wp2_with fail
          refine hsp.out.mono ?_
          rintro e w0 ⟨rfl, rfl⟩
          dsimp only
          go_wp2_with fail
          refine g1.out.mono ?_
          rintro e w1 ⟨rfl, hb1⟩
          dsimp only
          go_wp2_with fail
          go_returns
          exact ⟨rfl, hb1⟩
        · rw [hcl] at g1
          have hr : r.length ≤ 1048576 := by rcases hlen r used (by omega) hcl with rfl | h <;> omega
          replace g1 : Hid (Calls _ _ _ _ (ClimbSome r (p.drop used) w)) := g1
          clear p1 hcl hlen
          dsimp only
          by_cases hus : used < p.length
          · obtain ⟨d1, d2, d3, d4⟩ := drop_head p used hus
            have hx : (p.getD used []).length ≤ 1048576 := by rw [List.getD_eq_getElem?_getD, List.getElem?_eq_getElem hus]; exact hp _ (List.getElem_mem hus)
            rw [if_pos hus]
            show Calls _ _ _ _ (ClimbSome _ (p.drop (used + 1)) w)
            rw [← d4]
            rw [← d1] at hx ⊢
            generalize p.drop used = q at *
            clear d1 d2 d4 hp hus
            replace hx := Lib.hid hx
            replace hr := Lib.hid hr
            go_enter Tryz.func124, Tryz.ntmps124
            go_wp2_with fail
            refine hsp.out.mono ?_
            rintro e w0 ⟨rfl, rfl⟩
            dsimp only
            go_wp2_with fail
            refine g1.out.mono ?_
            rintro e w1 ⟨v, v2, rfl, hv, hv2, hb1⟩
            obtain ⟨A3, c3, rfl, e1, e2⟩ := hv.mk_
            obtain ⟨A4, c4, rfl, e3, e4⟩ := hv2.mk_
            have hcut := SeesL.cut (a := 1) (b := q.length) hv2 (by omega) (Nat.le_refl _)
            rw [List.take_of_length_le (by rw [List.length_drop]; omega)] at hcut
            obtain ⟨b, o, rfl, hbB, hcell⟩ := hv2.at_ d3
            obtain ⟨A5, c5, x0, -, -, hsee⟩ := hcell 0 d3
            rw [Nat.add_zero] at x0
            have r2 := run_cut_from (P := Tryz.prog) 35 Tryz.underlying35 1 slice_size (some ⟨b, o, none⟩) q.length c4 .i64 1 (by omega) (by omega)
            rw [show (1 : Int).toNat = 1 from rfl] at r2
            generalize cutA (some ⟨b, o, none⟩) c4 1 1 = A2 at r2 hcut
            have hnd := Lib.hid (node_any w1.heap.size _ _ _ r w1.drew hsee hv (Nat.le_refl _) (Nat.le_trans hx.out (by omega)) (Nat.le_trans hr.out (by omega)))
            generalize q.getD 0 [] = x at *
            have t0 : ((q.length : Int) == 0) = false := by rw [beq_eq_false_iff_ne]; omega
            have t1 : (0 : Int) < (q.length : Int) := by omega
            have t2 : (1 : Int) ≤ (q.length : Int) := by omega
            replace hcut := Lib.hid hcut
            replace hb1 := Lib.hid hb1
            clear hv hv2 hcell hsee
            dsimp only
            go_wp2_with fail
            go_region_held3 (fun W' : World => W'.cell? ⟨b, o, none⟩ = some (.slice A5 x.length c5)) (first | (go_keep; done) | exact ((hb3.cell (p := ⟨b, o, none⟩) hbB).trans x0))
              (first
                | (go_at_call 126; refine hnd.out.mono ?_; rintro e w2 ⟨v3, rfl, h3, hb3⟩))
            all_goals
              go_wp2_with fail
              go_returns
              have hw := (bdrew w1).trans hb3
              exact ⟨v3, _, rfl, h3.sees, (hcut.out.below hw).more hw.size, bgo hb1.out hw⟩
          · rw [if_neg hus]
            have hq : (p.drop used).length = 0 := by rw [List.length_drop]; omega
            generalize p.drop used = q at *
            replace hq := Lib.hid hq
            clear hp hus
            go_enter Tryz.func124, Tryz.ntmps124
            go_wp2_with fail
            refine hsp.out.mono ?_
            rintro e w0 ⟨rfl, rfl⟩
            dsimp only
            go_wp2_with fail
            refine g1.out.mono ?_
            rintro e w1 ⟨v, v2, rfl, hv, hv2, hb1⟩
            obtain ⟨A3, c3, rfl, e1, e2⟩ := hv.mk_
            obtain ⟨A4, c4, rfl, e3, e4⟩ := hv2.mk_
            rw [hq.out]
            clear hv hv2
            dsimp only
            go_wp2_with fail
            go_returns
            exact ⟨rfl, hb1⟩
    · obtain rfl : n = 1 := by omega
      have hc := climbG_one 1 i a p h2
      rw [hc]
      show Calls _ _ _ _ (ClimbSome a (p.drop 0) w)
      rw [List.drop_zero]
      clear ih
      replace hu := Lib.hid (hu.more hB)
      replace hu2 := Lib.hid (SeesL.more hu2 hB)
      go_enter Tryz.func124, Tryz.ntmps124
      go_wp2_with fail
      go_returns
      exact ⟨_, _, rfl, hu.out, hu2.out, Below.refl _ _⟩
end
section
open Go.RowKit
set_option linter.unusedVariables false
attribute [local go_sem ↓] Go.wp_at_zero Go.wp_at_succ
set_option maxRecDepth 100000 in
theorem equal_any (B B' : Nat) (u v : Value) (a b : Bs) (w : World) (hu : SeesB w B u a) (hv : SeesB w B' v b) :
    Calls Tryz.prog 57 #[u, v] w fun e w' => e = .returned (.bool (a == b)) ∧ w' = w := by
  obtain ⟨A, c, rfl, _, _⟩ := hu.mk_
  obtain ⟨A', c', rfl, _, _⟩ := hv.mk_
  have h1 := hu.string
  have h2 := hv.string
  clear hu hv
  go_enter Tryz.func57, Tryz.ntmps57
  go_wp2
  go_ret
  exact ⟨ret_bool (by rw [strB_toList, strB_toList]), rfl⟩
theorem same_any (B B' : Nat) (u v : Value) (a b : Bs) (w : World) (hu : SeesB w B u a) (hv : SeesB w B' v b) :
    Calls Tryz.prog 93 #[u, v] w fun e w' => e = .returned (.bool (a == b)) ∧ w' = w := by
  have h := Lib.hid (equal_any B B' u v a b w hu hv)
  obtain ⟨A, c, rfl, _, _⟩ := hu.mk_
  obtain ⟨A', c', rfl, _, _⟩ := hv.mk_
  clear hu hv
  go_enter Tryz.func93, Tryz.ntmps93
  go_wp2_with fail
  refine h.out.mono ?_
  rintro e w0 ⟨rfl, rfl⟩
  dsimp only
  go_wp2_with fail
  go_ret
  exact ⟨rfl, rfl⟩
def inI (n i : Int) : Bool := decide (1 ≤ n) && decide (n ≤ 1024) && decide (0 ≤ i) && decide (i < n)
def climbI (n i : Int) (leaf : Bs) (p : List Bs) : Option Bs :=
  if inI n i = true then
    match climbG n.toNat i.toNat (leafH leaf) p with
    | none => none
    | some (r, used) => if used = p.length then some r else none
  else none
def checkI (root : Bs) (n i : Int) (leaf : Bs) (p : List Bs) : Bool :=
  match climbI n i leaf p with
  | none => false
  | some r => r == root
def CSome (r : Bs) (w : World) (e : Ending) (w' : World) : Prop := ∃ v, e = .returned (.tuple #[v, .bool true]) ∧ SeesB w' w'.heap.size v r ∧ Below w.heap.size w w'
def CNone (w : World) (e : Ending) (w' : World) : Prop := e = .returned (.tuple #[.slice none 0 0, .bool false]) ∧ Below w.heap.size w w'
def CPost (x : Option Bs) (w : World) (e : Ending) (w' : World) : Prop :=
  match x with
  | none => CNone w e w'
  | some r => CSome r w e w'
theorem inI_ok {n i : Int} (h : inI n i = true) : 1 ≤ n ∧ n ≤ 1024 ∧ 0 ≤ i ∧ i < n := by
  simpa [inI, and_assoc] using h
theorem inI_no {n i : Int} (h : ¬ inI n i = true) : n < 1 ∨ (1 ≤ n ∧ 1024 < n) ∨ (1 ≤ n ∧ n ≤ 1024 ∧ i < 0) ∨ (1 ≤ n ∧ n ≤ 1024 ∧ 0 ≤ i ∧ n ≤ i) := by
  simp [inI] at h
  omega
set_option maxRecDepth 100000 in
theorem climbT_any (n i : Int) (a : Bs) (p : List Bs) (B : Nat) (u u2 : Value) (w : World) (hu : SeesB w B u a) (hu2 : SeesL w B u2 p) (hB : B ≤ w.heap.size) (ha : a.length ≤ 1048576) (hp : ∀ l ∈ p, l.length ≤ 1048576) :
    Calls Tryz.prog 92 #[.int .i64 n, .int .i64 i, u, u2] w (CPost (climbI n i a p) w) := by
  obtain ⟨A, c, rfl, hc1, hc2⟩ := hu.mk_
  obtain ⟨AA, cc, rfl, hc3, hc4⟩ := hu2.mk_
  by_cases hin : inI n i = true
  · obtain ⟨n1, n2, i1, i2⟩ := inI_ok hin
    have hci : climbI n i a p = match climbG n.toNat i.toNat (leafH a) p with
        | none => none
        | some (r, used) => if used = p.length then some r else none := by rw [climbI, if_pos hin]
    rw [hci]
    obtain ⟨n, rfl⟩ := Int.eq_ofNat_of_zero_le (show 0 ≤ n by omega)
    obtain ⟨i, rfl⟩ := Int.eq_ofNat_of_zero_le i1
    rw [Int.toNat_natCast, Int.toNat_natCast]
    have j0 : ¬ ((n : Int) < 1) := by omega
    have j1 : ¬ ((1024 : Int) < (n : Int)) := by omega
    have j2 : ¬ ((i : Int) < 0) := by omega
    have j3 : ¬ ((n : Int) ≤ (i : Int)) := by omega
    have hus : ∀ r u, climbG n i (leafH a) p = some (r, u) → u ≤ p.length := fun r u h => climbG_used n n i _ _ r u (Nat.le_refl _) h
    clear hci hin
    have hlf := Lib.hid (leaf_any B _ a w hu hB (by omega))
    have hall : (leafH a).length = 32 := sha_len _
    have hcm := fun (W : World) (v : Value) (hb : Below w.heap.size w W) (hv : SeesB W W.heap.size v (leafH a)) => climb_any n n i (leafH a) p W.heap.size v (.slice AA p.length cc) W (Nat.le_refl _) (by omega) (by omega) (by omega) hv (SeesL.more (hu2.below (hb.mono hB)) (Nat.le_trans hB hb.size)) (Nat.le_refl _) (by omega) hp
    replace hcm := Lib.hid hcm
    clear hu hu2 hp hall
    rcases hcl : climbG n i (leafH a) p with _ | ⟨r, used⟩
    · rw [hcl] at hcm
      clear hcl hus
      show Calls _ _ _ _ (CNone w)
      go_enter Tryz.func92, Tryz.ntmps92
      go_wp2_with fail
      refine hlf.out.mono ?_
      rintro e w1 ⟨v, rfl, hv, hb1⟩
      dsimp only
      go_wp2_with fail
      have hc := hcm.out w1 v hb1 hv.sees
      replace hc : Calls _ _ _ _ (ClimbNone w1) := hc
      refine hc.mono ?_
      rintro e w2 ⟨rfl, hb2⟩
      dsimp only
      go_wp2_with fail
      go_returns
      exact ⟨rfl, bgo hb1 hb2⟩
    · rw [hcl] at hcm
      replace hcm : Hid (∀ (W : World) (v : Value), Below w.heap.size w W → SeesB W W.heap.size v (leafH a) → Calls Tryz.prog 124 #[.int .i64 (n : Int), .int .i64 (i : Int), v, .slice AA p.length cc] W (ClimbSome r (p.drop used) W)) := hcm
      have hle := hus r used hcl
      clear hcl hus
      have hdl : (p.drop used).length = p.length - used := List.length_drop
      dsimp only
      by_cases hu : used = p.length
      · rw [if_pos hu]
        have h0 : (p.drop used).length = 0 := by omega
        show Calls _ _ _ _ (CSome r w)
        generalize p.drop used = q at *
        replace h0 := Lib.hid h0
        clear hdl hu hle
        go_enter Tryz.func92, Tryz.ntmps92
        go_wp2_with fail
        refine hlf.out.mono ?_
        rintro e w1 ⟨v, rfl, hv, hb1⟩
        dsimp only
        go_wp2_with fail
        have hc := hcm.out w1 v hb1 hv.sees
        replace hc : Calls _ _ _ _ (ClimbSome r q w1) := hc
        refine hc.mono ?_
        rintro e w2 ⟨v2, v3, rfl, h2, h3, hb2⟩
        obtain ⟨A3, c3, rfl, -, -⟩ := h2.mk_
        obtain ⟨A4, c4, rfl, -, -⟩ := h3.mk_
        rw [h0.out]
        clear h3
        replace h2 := Lib.hid h2
        dsimp only
        go_wp2_with fail
        go_returns
        exact ⟨_, rfl, h2.out, bgo hb1 hb2⟩
      · rw [if_neg hu]
        have h0 : (0 : Int) < ((p.drop used).length : Int) := by omega
        show Calls _ _ _ _ (CNone w)
        generalize p.drop used = q at *
        clear hdl hu hle
        go_enter Tryz.func92, Tryz.ntmps92
        go_wp2_with fail
        refine hlf.out.mono ?_
        rintro e w1 ⟨v, rfl, hv, hb1⟩
        dsimp only
        go_wp2_with fail
        have hc := hcm.out w1 v hb1 hv.sees
        replace hc : Calls _ _ _ _ (ClimbSome r q w1) := hc
        refine hc.mono ?_
        rintro e w2 ⟨v2, v3, rfl, h2, h3, hb2⟩
        obtain ⟨A3, c3, rfl, -, -⟩ := h2.mk_
        obtain ⟨A4, c4, rfl, -, -⟩ := h3.mk_
        clear h3 h2
        dsimp only
        go_wp2_with fail
        go_returns
        exact ⟨rfl, bgo hb1 hb2⟩
  · have hci : climbI n i a p = none := by rw [climbI, if_neg hin]
    rw [hci]
    show Calls _ _ _ _ (CNone w)
    clear hu hu2 hp
    rcases inI_no hin with j0 | ⟨j0, j1⟩ | ⟨j0, j1, j2⟩ | ⟨j0, j1, j2, j3⟩
    · go_enter Tryz.func92, Tryz.ntmps92
      go_wp2_with fail
      go_returns
      exact ⟨rfl, Below.refl _ _⟩
    · have j2 : ¬ (n < 1) := by omega
      go_enter Tryz.func92, Tryz.ntmps92
      go_wp2_with fail
      go_returns
      exact ⟨rfl, Below.refl _ _⟩
    · have j3 : ¬ (n < 1) := by omega
      have j4 : ¬ (1024 < n) := by omega
      go_enter Tryz.func92, Tryz.ntmps92
      go_wp2_with fail
      go_returns
      exact ⟨rfl, Below.refl _ _⟩
    · have j4 : ¬ (n < 1) := by omega
      have j5 : ¬ (1024 < n) := by omega
      have j6 : ¬ (i < 0) := by omega
      go_enter Tryz.func92, Tryz.ntmps92
      go_wp2_with fail
      go_returns
      exact ⟨rfl, Below.refl _ _⟩
def BoolPost (b : Bool) (w : World) (e : Ending) (w' : World) : Prop := e = .returned (.bool b) ∧ Below w.heap.size w w'
set_option maxRecDepth 100000 in
theorem check_any (root : Bs) (n i : Int) (a : Bs) (p : List Bs) (B : Nat) (ur u u2 : Value) (w : World) (hr : SeesB w B ur root) (hu : SeesB w B u a) (hu2 : SeesL w B u2 p) (hB : B ≤ w.heap.size) (ha : a.length ≤ 1048576) (hp : ∀ l ∈ p, l.length ≤ 1048576) :
    Calls Tryz.prog 61 #[ur, .int .i64 n, .int .i64 i, u, u2] w (BoolPost (checkI root n i a p) w) := by
  have hc := climbT_any n i a p B u u2 w hu hu2 hB ha hp
  obtain ⟨A, c, rfl, -, -⟩ := hu.mk_
  obtain ⟨AA, cc, rfl, -, -⟩ := hu2.mk_
  obtain ⟨AR, cr, rfl, -, -⟩ := hr.mk_
  clear hu hu2 hp
  unfold checkI
  replace hr := Lib.hid hr
  rcases hcl : climbI n i a p with _ | r
  · rw [hcl] at hc
    replace hc : Hid (Calls _ _ _ _ (CNone w)) := hc
    clear hcl
    go_enter Tryz.func61, Tryz.ntmps61
    go_wp2_with fail
    refine hc.out.mono ?_
    rintro e w1 ⟨rfl, hb1⟩
    dsimp only
    go_wp2_with fail
    go_ret
    exact ⟨rfl, hb1⟩
  · rw [hcl] at hc
    replace hc : Hid (Calls _ _ _ _ (CSome r w)) := hc
    clear hcl
    go_enter Tryz.func61, Tryz.ntmps61
    go_wp2_with fail
    refine hc.out.mono ?_
    rintro e w1 ⟨v, rfl, hv, hb1⟩
    have hsm := Lib.hid (same_any _ _ _ _ _ _ w1 hv (hr.out.below (hb1.mono hB)))
    obtain ⟨A3, c3, rfl, -, -⟩ := hv.mk_
    clear hv
    dsimp only
    go_wp2_with fail
    refine hsm.out.mono ?_
    rintro e w2 ⟨rfl, rfl⟩
    dsimp only
    go_wp2_with fail
    go_ret
    exact ⟨rfl, hb1⟩
end
section
open Go.RowKit
set_option linter.unusedVariables false
attribute [local go_sem ↓] Go.wp_at_zero Go.wp_at_succ
set_option maxRecDepth 100000 in
theorem rdigits_any (B : Nat) (u : Value) (d : Bs) (w : World) (hu : SeesB w B u d) (hB : B ≤ w.heap.size) (hl : d.length = 16) :
    Calls Tryz.prog 96 #[u] w (DigPost d w) := by
  obtain ⟨A, c, rfl, hc1, hc2⟩ := hu.mk_
  rw [hl] at hc1 hu ⊢
  obtain ⟨b, o, rfl, hbB, hcell⟩ := hu.at_ (by omega)
  replace hl := Lib.hid hl
  replace hcell := Lib.hid hcell
  replace hbB := Lib.hid hbB
  clear hu
  go_enter Tryz.func96, Tryz.ntmps96
  go_wp2_with fail
  go_loopw [4, 5, 6, 7, 8] (fun v s t _ _ wr => ∃ k : Nat, k ≤ 16 ∧ t = .int .i64 k ∧ Hid (OwnI wr w.heap.size v (digA (d.take k))) ∧ s = .int .i64 ((sumD (digA (d.take k)) : Nat) : Int) ∧ Hid (Below w.heap.size w wr)) (fun _ _ t _ _ _ => 16 - (intOf t).toNat)
  case atStart => exact ⟨0, by omega, rfl, World.ownsRow_nil w _ _ _, rfl, Below.refl _ _⟩
  case round =>
    obtain ⟨k, hk, rfl, ho, rfl, hb⟩ := hrel
    by_cases hlt : k < 16
    · have x0 := (hb.out.cell (p := ⟨b, o + k, none⟩) (Nat.lt_of_lt_of_le hbB.out hB)).trans (hcell.out k (by rw [hl.out]; exact hlt))
      have hst := Lib.hid (digA_take d k (by rw [hl.out]; exact hlt))
      have hsl := sumD_le (digA (d.take k))
      rw [digA_len, List.length_take] at hsl
      have hal : Hid ((digA (d.take k)).length ≤ 32) := by show _ ≤ _; rw [digA_len, List.length_take]; omega
      generalize digA (d.take k) = acc at *
      generalize d.getD k 0 = x at *
      have hx := x.toNat_lt
      unfold byV at x0
      have ha := and_u8 x
      have i0 : (0 : Int) ≤ (k : Int) := by omega
      have i1 : (k : Int) < 16 := by omega
      go_wp2_with fail
      go_quiet (fail)
      rw [show ((x.toNat : Int) / 16) = ((x.toNat / 16 : Nat) : Int) from rfl, show ((x.toNat : Int) % 16) = ((x.toNat % 16 : Nat) : Int) from rfl]
      have hp : x.toNat / 16 < 16 := by omega
      have hq : x.toNat % 16 < 16 := by omega
      have hs1 := Lib.hid (sumD_snoc acc (x.toNat / 16))
      have hs2 := Lib.hid (sumD_snoc (acc ++ [x.toNat / 16]) (x.toNat % 16))
      generalize x.toNat / 16 = p at *
      generalize x.toNat % 16 = q at *
      clear ha x0 hx
      obtain ⟨Ar, cr, rfl, -, -⟩ := ho.out.sees.mk_
      have hal2 := balloc (wr.drewN nq) (.cells #[.int .i64 (p : Int), .int .i64 (q : Int)] 3)
      have hbd := below_drewN hb.out nq
      have ho2 := Lib.hid (OwnI.below (w := wr.drewN nq) ho.out hal2)
      have hcl := Lib.hid (lit_int2 (wr.drewN nq) p q)
      have hb2 := Lib.hid (hbd.trans (hal2.mono hbd.size))
      clear ho hb hal2 hbd
      go_wp2_with (at_builtin; refine wpList_appI (by rfl) _ _ rfl w.heap.size _ acc rfl ho2.out _ _ [p, q] rfl hcl.out (by have := hal.out; simp; omega) hb2.out.size ?_)
      intro v' w' hW2 hb4
      have hW2 := Lib.hid hW2
      have hb4 := Lib.hid (hb2.out.trans hb4)
      go_wp2_with fail
      go_roundw
      case rel => exact ⟨k + 1, by omega, by go_num, by rw [hst.out]; have := hW2.out; show OwnI _ _ _ _; simpa using this, by rw [hst.out, hs2.out, hs1.out]; go_num, hb4⟩
      case measure => simp [intOf]; omega
    · have hk16 : k = 16 := by omega
      have hS := sumD_le (digA d)
      rw [digA_len, hl.out] at hS
      have hal : Hid ((digA d).length ≤ 32) := by show _ ≤ _; rw [digA_len, hl.out]; omega
      rw [hk16, List.take_of_length_le (by rw [hl.out]; omega)] at ho
      rw [List.take_of_length_le (by rw [hl.out]; omega)]
      have hds : Hid (digs d = digA d ++ [sumD (digA d) / 256, sumD (digA d) / 16 % 16, sumD (digA d) % 16]) := rfl
      generalize digA d = acc at *
      generalize hSS : sumD acc = S at *
      replace hSS := Lib.hid hSS
      replace hk16 := Lib.hid hk16
      have s2 : (S : Int) / 256 = ((S / 256 : Nat) : Int) := rfl
      have s1 : (S : Int) / 16 % 16 = ((S / 16 % 16 : Nat) : Int) := rfl
      have s0 : (S : Int) % 16 = ((S % 16 : Nat) : Int) := rfl
      generalize S / 256 = a2 at *
      generalize S / 16 % 16 = a1 at *
      generalize S % 16 = a0 at *
      obtain ⟨Ar, cr, rfl, -, -⟩ := ho.out.sees.mk_
      have hal2 := balloc wr (.cells #[.int .i64 (a2 : Int), .int .i64 (a1 : Int), .int .i64 (a0 : Int)] 3)
      have ho2 := Lib.hid (OwnI.below ho.out hal2)
      have hcl := Lib.hid (lit_int3 wr a2 a1 a0)
      have hb2 := Lib.hid (hb.out.trans (hal2.mono hb.out.size))
      clear ho hb hal2
      go_wp2_with (at_builtin; refine wpList_appI (by rfl) _ _ rfl w.heap.size _ acc rfl ho2.out _ _ [a2, a1, a0] rfl hcl.out (by have := hal.out; simp; omega) hb2.out.size ?_)
      intro v' w' hW2 hb4
      have hW2 := Lib.hid hW2
      have hb4 := Lib.hid (hb2.out.trans hb4)
      go_wp2_with fail
      go_returns
      exact ⟨_, rfl, by rw [hds.out]; exact hW2.out, hb4.out⟩
end
section
open Go.RowKit
set_option linter.unusedVariables false
attribute [local go_sem ↓] Go.wp_at_zero Go.wp_at_succ
theorem chainN_nat (x : Nat) (h : x < 16) : chainN (x : Int) = x := by unfold chainN; omega
def signF (seed : Bs) (i : Nat) (ds : List Nat) (k : Nat) : List Bs := (List.range k).map fun c => chainH (ds.getD c 0) (otBegin seed i c)
theorem signF_succ (seed : Bs) (i : Nat) (ds : List Nat) (k : Nat) : signF seed i ds (k + 1) = signF seed i ds k ++ [chainH (ds.getD k 0) (otBegin seed i k)] := by simp [signF, List.range_succ]
theorem signF_len (seed : Bs) (i : Nat) (ds : List Nat) (k : Nat) : (signF seed i ds k).length = k := by simp [signF]
def OtSignPost (ls : List Bs) (w : World) (e : Ending) (w' : World) : Prop :=
  ∃ v, e = .returned (.tuple #[v, .int .i64 0]) ∧ OwnL w' w.heap.size v ls ∧ Below w.heap.size w w'
set_option maxRecDepth 100000 in
theorem otsign_any (B : Nat) (u u2 : Value) (seed d : Bs) (i : Nat) (w : World) (hu : SeesB w B u seed) (hu2 : SeesB w B u2 d) (hB : B ≤ w.heap.size) (hl : seed.length = 32) (hd : d.length = 16) (hi : i ≤ 2147483647) :
    Calls Tryz.prog 78 #[u, .int .i64 (i : Int), u2] w (OtSignPost (signL seed i d) w) := by
  obtain ⟨A, c, rfl, hc1, hc2⟩ := hu.mk_
  obtain ⟨AA, cc, rfl, hc3, hc4⟩ := hu2.mk_
  have hv := otvalid_any B _ seed (i : Int) w hu
  rw [show otC seed (i : Int) = 0 by simp [otC, hl]; omega] at hv
  have hdg := digits_any B _ d w hu2 hB hd
  unfold DigPost at hdg
  have hfin : Hid (signL seed i d = signF seed i (digs d) 35) := rfl
  have hlen := digs_len d
  have hlt16 := digs_get d hd
  rw [hd] at hlen hu2 hc3 hdg ⊢
  rw [hl] at hu hc1 hv ⊢
  generalize digs d = ds at *
  replace hlen : Hid (ds.length = 35) := hlen
  replace hlt16 := Lib.hid hlt16
  replace hl := Lib.hid hl
  replace hd := Lib.hid hd
  replace hu := Lib.hid hu
  replace hv := Lib.hid hv
  replace hdg := Lib.hid hdg
  clear hu2
  have hmk : ∀ W : World, (Instr.makeSlice 35 (.int .i64 35) (.int .i64 35)).run Tryz.prog W = .ok (.slice (some ⟨W.heap.size, 0, none⟩) 35 35) (W.alloc (.cells (Array.replicate 35 (Value.slice none 0 0)) 23)) := fun W => by
    rw [← List.toArray_replicate]; exact make_lists 35 Tryz.underlying35 35 (by omega) W
  go_enter Tryz.func78, Tryz.ntmps78
  go_wp2_with fail
  refine hv.out.mono ?_
  rintro e w0 ⟨rfl, rfl⟩
  dsimp only
  go_wp2_with fail
  refine hdg.out.mono ?_
  rintro e w1 ⟨v1, rfl, h1, hb1⟩
  obtain ⟨A1, c1, rfl, g1, g2⟩ := h1.sees.mk_
  rw [hlen.out] at g1 ⊢
  have h1' := h1.sees
  rw [hlen.out] at h1'
  obtain ⟨b, o, rfl, hbB, hcell⟩ := h1'.at_ (by rw [hlen.out]; omega)
  rw [hlen.out] at hcell
  replace hcell := Lib.hid hcell
  clear h1 h1'
  dsimp only
  go_wp2_with fail
  obtain ⟨wo, rfl⟩ : ∃ wo : World, wo = w1 := ⟨_, rfl⟩
  refine wp_fresh (fun W => OwnL W wo.heap.size (.slice (some ⟨wo.heap.size, 0, none⟩) 35 35) (signF seed i ds 0 ++ List.replicate (35 - 0) []) ∧ Below wo.heap.size wo W ∧ wo.heap.size < W.heap.size) ⟨show OwnL _ _ _ (List.replicate 35 []) from OwnL.made wo 35 (by unfold maxLen; omega), balloc wo _, by simp⟩ ?_
  rintro W0 ⟨ho, hb, hlt0⟩
  replace ho := Lib.hid ho
  replace hb := Lib.hid hb
  replace hb1 := Lib.hid hb1
  obtain ⟨g, hg⟩ : ∃ g, g = wo.heap.size := ⟨_, rfl⟩
  rw [← hg] at ho hlt0 ⊢
  replace hg := Lib.hid hg
  clear hmk hdg hv
  go_loopw [12, 13, 33] (fun _ _ t wr => ∃ k : Nat, k ≤ 35 ∧ t = .int .i64 k ∧ Hid (OwnL wr g (.slice (some ⟨g, 0, none⟩) 35 35) (signF seed i ds k ++ List.replicate (35 - k) [])) ∧ Hid (Below wo.heap.size wo wr) ∧ Hid (g < wr.heap.size)) (fun _ _ t _ => 35 - (intOf t).toNat)
  case atStart => exact ⟨0, by omega, rfl, ho, hb, hlt0⟩
  case round =>
    clear ho hb hlt0
    obtain ⟨k, hk, rfl, ho, hb, hgl⟩ := hrel
    by_cases hlt : k < 35
    · have x0 := (hb.out.cell (p := ⟨b, o + k, none⟩) hbB).trans (hcell.out k hlt)
      have hdk := hlt16.out k hlt
      have hst : Hid (signF seed i ds (k + 1) ++ List.replicate (35 - (k + 1)) [] = (signF seed i ds k ++ List.replicate (35 - k) []).set k (chainH (ds.getD k 0) (otBegin seed i k))) := by
        show _ = _
        rw [set_rep _ _ _ _ (signF_len seed i ds k) hlt, signF_succ]
      have hrow : Hid (k < (signF seed i ds k ++ List.replicate (35 - k) []).length) := by show _ < _; rw [List.length_append, signF_len, List.length_replicate]; omega
      have hbg := Lib.hid (begin_any B _ seed i k wr (hu.out.below ((bgo hb1.out hb.out).mono hB)) (Nat.le_trans hB (bgo hb1.out hb.out).size) (by rw [hl.out]; omega) hi (by omega))
      have hlb : Hid ((otBegin seed i k).length = 16) := short_len _
      generalize signF seed i ds k ++ List.replicate (35 - k) [] = row at *
      generalize otBegin seed i k = bg at *
      generalize ds.getD k 0 = dk at *
      have i0 : (0 : Int) ≤ (k : Int) := by omega
      have i1 : (k : Int) < 35 := by omega
      go_wp2_with fail
      refine hbg.out.mono ?_
      rintro e w2 ⟨v2, rfl, h2, hb2, hf2⟩
      have hch := chain_any _ _ _ (dk : Int) w2 h2 (Nat.le_refl _) (by rw [hlb.out]; omega)
      rw [chainN_nat dk hdk] at hch
      replace hch := Lib.hid hch
      generalize chainH dk bg = l at *
      clear h2 hf2
      dsimp only
      go_wp2_with fail
      refine hch.out.mono ?_
      rintro e w3 ⟨v3, rfl, h3, hb3, hf3⟩
      have hb23 := bgo hb2 hb3
      have ho2 := ho.out.below hb23
      obtain ⟨⟨z, y0⟩, f0⟩ := ho2.cell hrow.out
      obtain ⟨o1, o2⟩ := ho2.set hrow.out (Elt.of_from h3 hf3 (fun k hk => by cases hk; exact Nat.lt_of_lt_of_le hgl.out hb2.size))
      obtain ⟨A2, c2, rfl, -, -⟩ := h3.mk_
      replace hb := Lib.hid ((bgo hb.out hb23).trans (o2.mono (by have := hg.out; omega)))
      replace hgl : Hid (g < (w3.setCell ⟨g, k, none⟩ (.slice A2 l.length c2)).heap.size) := Nat.lt_of_lt_of_le (Nat.lt_of_lt_of_le hgl.out hb23.size) o2.size
      replace o1 := Lib.hid o1
      clear hb2 hb3 hb23 hbg hch ho ho2 o2 h3 hf3
      dsimp only
      go_wp2_with fail
      go_roundw
      case rel => exact ⟨k + 1, by omega, by go_num, by rw [hst.out]; exact o1.out, hb, hgl⟩
      case measure => simp [intOf]; omega
    · have hkn : k = 35 := by omega
      have hf : Hid (OwnL wr w0.heap.size (.slice (some ⟨g, 0, none⟩) 35 35) (signF seed i ds 35)) := by
        have := ho.out
        rw [hkn, Nat.sub_self, List.replicate_zero, List.append_nil] at this
        exact this.mono (by have := hg.out; have := hb1.out.size; omega)
      replace hkn := Lib.hid hkn
      clear ho
      go_wp2_with fail
      go_returns
      exact ⟨_, rfl, by rw [hfin.out]; exact hf.out, bgo hb1.out hb.out⟩
end
section
open Go.RowKit
set_option linter.unusedVariables false
attribute [local go_sem ↓] Go.wp_at_zero Go.wp_at_succ
set_option maxRecDepth 100000 in
theorem rotsign_any (B : Nat) (u u2 : Value) (seed d : Bs) (i : Nat) (w : World) (hu : SeesB w B u seed) (hu2 : SeesB w B u2 d) (hB : B ≤ w.heap.size) (hl : seed.length = 32) (hd : d.length = 16) (hi : i ≤ 2147483647) :
    Calls Tryz.prog 64 #[u, .int .i64 (i : Int), u2] w (OtSignPost (signL seed i d) w) := by
  obtain ⟨A, c, rfl, hc1, hc2⟩ := hu.mk_
  obtain ⟨AA, cc, rfl, hc3, hc4⟩ := hu2.mk_
  have hv := rotvalid_any B _ seed (i : Int) w hu
  rw [show otC seed (i : Int) = 0 by simp [otC, hl]; omega] at hv
  have hdg := rdigits_any B _ d w hu2 hB hd
  unfold DigPost at hdg
  have hfin : Hid (signL seed i d = signF seed i (digs d) 35) := rfl
  have hlen := digs_len d
  have hlt16 := digs_get d hd
  rw [hd] at hlen hu2 hc3 hdg ⊢
  rw [hl] at hu hc1 hv ⊢
  generalize digs d = ds at *
  replace hlen : Hid (ds.length = 35) := hlen
  replace hlt16 := Lib.hid hlt16
  replace hl := Lib.hid hl
  replace hd := Lib.hid hd
  replace hu := Lib.hid hu
  replace hv := Lib.hid hv
  replace hdg := Lib.hid hdg
  clear hu2
  go_enter Tryz.func64, Tryz.ntmps64
  go_wp2_with fail
  refine hv.out.mono ?_
  rintro e w0 ⟨rfl, rfl⟩
  dsimp only
  go_wp2_with fail
  refine hdg.out.mono ?_
  rintro e w1 ⟨v1, rfl, h1, hb1⟩
  obtain ⟨A1, c1, rfl, g1, g2⟩ := h1.sees.mk_
  rw [hlen.out] at g1 ⊢
  have h1' := h1.sees
  rw [hlen.out] at h1'
  obtain ⟨b, o, rfl, hbB, hcell⟩ := h1'.at_ (by rw [hlen.out]; omega)
  rw [hlen.out] at hcell
  replace hcell := Lib.hid hcell
  clear h1 h1'
  replace hb1 := Lib.hid hb1
  dsimp only
  go_wp2_with fail
  obtain ⟨wo, rfl⟩ : ∃ wo : World, wo = w1 := ⟨_, rfl⟩
  clear hdg hv
  go_loopw [11, 12, 13, 14] (fun v t _ _ wr => ∃ k : Nat, k ≤ 35 ∧ t = .int .i64 k ∧ Hid (OwnL wr wo.heap.size v (signF seed i ds k)) ∧ Hid (Below wo.heap.size wo wr)) (fun _ t _ _ _ => 35 - (intOf t).toNat)
  case atStart => exact ⟨0, by omega, rfl, OwnL.nil _ _, Below.refl _ _⟩
  case round =>
    obtain ⟨k, hk, rfl, ho, hb⟩ := hrel
    by_cases hlt : k < 35
    · have hdk := hlt16.out k hlt
      have hst := Lib.hid (signF_succ seed i ds k)
      have hrow : Hid ((signF seed i ds k).length ≤ 35) := by show _ ≤ _; rw [signF_len]; omega
      have hbg := rsecret_any B _ seed i k wr (hu.out.below ((bgo hb1.out hb.out).mono hB)) (Nat.le_trans hB (bgo hb1.out hb.out).size) hl.out hi hlt
      unfold SecretPost at hbg
      replace hbg := Lib.hid hbg
      have hlb : Hid ((otBegin seed i k).length = 16) := short_len _
      have x1 := Lib.hid ((hb.out.cell (p := ⟨b, o + k, none⟩) hbB).trans (hcell.out k hlt))
      generalize signF seed i ds k = row at *
      generalize otBegin seed i k = bg at *
      generalize ds.getD k 0 = dk at *
      have i0 : (0 : Int) ≤ (k : Int) := by omega
      have i1 : (k : Int) < 35 := by omega
      obtain ⟨Ar, cr, rfl⟩ := ho.out.shape
      go_wp2_with fail
      refine hbg.out.mono ?_
      rintro e w2 ⟨v2, rfl, h2, hb2, hf2⟩
      have hch := rchain_any _ _ _ (dk : Int) w2 h2 (Nat.le_refl _) (by rw [hlb.out]; omega)
      rw [chainN_nat dk hdk] at hch
      replace hch := Lib.hid hch
      have x0 := (hb2.cell (p := ⟨b, o + k, none⟩) (Nat.lt_of_lt_of_le hbB hb.out.size)).trans x1.out
      generalize chainH dk bg = l at *
      clear h2 hf2
      dsimp only
      go_wp2_with fail
      refine hch.out.mono ?_
      rintro e w3 ⟨v3, rfl, h3, hb3, hf3⟩
      have hb23 := bgo hb2 hb3
      have ho2 := ho.out.below hb23
      have hel := Elt.of_from (v := .slice Ar row.length cr) h3 hf3 (fun k hk => Nat.lt_of_lt_of_le (ho.out.lt k hk).2 hb2.size)
      obtain ⟨A2, c2, rfl, -, -⟩ := h3.mk_
      replace hb := Lib.hid (bgo hb.out hb23)
      have hal := balloc w3 (.cells #[.slice A2 l.length c2] 23)
      have hcl := Lib.hid (one_cell w3 (.slice A2 l.length c2) 23)
      replace ho2 := Lib.hid (ho2.below hal)
      replace hel := Lib.hid (hel.below hal)
      have hb4 := Lib.hid (bgo hb.out hal)
      clear hb2 hb3 hb23 hbg hch ho h3 hf3 x0 x1 hal hb
      dsimp only
      go_wp2_with (at_builtin; refine wpList_appL (by rfl) _ _ 35 Tryz.underlying35 rfl wo.heap.size _ row rfl ho2.out _ _ _ l rfl hcl.out hel.out (by have := hrow.out; omega) hb4.out.size ?_)
      intro v' w' hW2 hb5
      have hW2 := Lib.hid hW2
      have hb5 := Lib.hid (hb4.out.trans hb5)
      go_wp2_with fail
      go_roundw
      case rel => exact ⟨k + 1, by omega, by go_num, by rw [hst.out]; exact hW2.out, hb5⟩
      case measure => simp [intOf]; omega
    · have hkn : k = 35 := by omega
      rw [hkn] at ho
      replace hkn := Lib.hid hkn
      go_wp2_with fail
      go_returns
      exact ⟨_, rfl, by rw [hfin.out]; exact ho.out.mono hb1.out.size, bgo hb1.out hb.out⟩
end
section
open Go.RowKit
set_option linter.unusedVariables false
attribute [local go_sem ↓] Go.wp_at_zero Go.wp_at_succ
def RecPost (l : Bs) (w : World) (e : Ending) (w' : World) : Prop :=
  ∃ v, e = .returned (.tuple #[v, .int .i64 0]) ∧ SeesB w' w'.heap.size v l ∧ Below w.heap.size w w' ∧ From w.heap.size v
theorem recEnds_len (d : Bs) (sig : List Bs) (h : ∀ k, k < 35 → (sig.getD k []).length = 16) (n : Nat) (hn : n ≤ 35) : (recEnds d sig n).length = 16 * n := by
  induction n with
  | zero => rfl
  | succ n ih => rw [recEnds, List.length_append, ih (by omega), chainH_len _ _ (h n (by omega))]; omega
set_option maxRecDepth 100000 in
theorem recover_any (B : Nat) (u u2 : Value) (d : Bs) (sig : List Bs) (w : World) (hu : SeesB w B u d) (hu2 : SeesL w B u2 sig) (hB : B ≤ w.heap.size) (hd : d.length = 16) (hs : sig.length = 35) (hel : ∀ x ∈ sig, x.length = 16) :
    Calls Tryz.prog 88 #[u, u2] w (RecPost (recG d sig) w) := by
  obtain ⟨A, c, rfl, hc1, hc2⟩ := hu.mk_
  obtain ⟨AA, cc, rfl, hc3, hc4⟩ := hu2.mk_
  have hdg := digits_any B _ d w hu hB hd
  unfold DigPost at hdg
  have hel' : ∀ k, k < 35 → (sig.getD k []).length = 16 := fun k hk => by
    rw [List.getD_eq_getElem?_getD, List.getElem?_eq_getElem (by omega)]; exact hel _ (List.getElem_mem _)
  have hEl := Lib.hid (recEnds_len d sig hel')
  have hfin : Hid (recG d sig = short (recEnds d sig 35)) := rfl
  have hstep : Hid (∀ n, recEnds d sig (n + 1) = recEnds d sig n ++ chainH (15 - (digs d).getD n 0) (sig.getD n [])) := fun n => rfl
  have hlen := digs_len d
  have hlt16 := digs_get d hd
  rw [hd] at hlen hu hc1 hdg ⊢
  rw [hs] at hu2 hc3 ⊢
  generalize digs d = ds at *
  obtain ⟨b2, o2, rfl, hbB2, hcell2⟩ := hu2.at_ (by omega)
  rw [hs] at hcell2
  replace hcell2 := Lib.hid hcell2
  replace hlen : Hid (ds.length = 35) := hlen
  replace hlt16 := Lib.hid hlt16
  replace hel' := Lib.hid hel'
  replace hs := Lib.hid hs
  replace hd := Lib.hid hd
  replace hdg := Lib.hid hdg
  clear hu2 hel hu
  have hmk := make_560
  go_enter Tryz.func88, Tryz.ntmps88
  go_wp2_with fail
  refine hdg.out.mono ?_
  rintro e w1 ⟨v1, rfl, h1, hb1⟩
  obtain ⟨A1, c1, rfl, g1, g2⟩ := h1.sees.mk_
  rw [hlen.out] at g1 ⊢
  have h1' := h1.sees
  rw [hlen.out] at h1'
  obtain ⟨b, o, rfl, hbB, hcell⟩ := h1'.at_ (by rw [hlen.out]; omega)
  rw [hlen.out] at hcell
  replace hcell := Lib.hid hcell
  clear h1 h1'
  replace hb1 := Lib.hid hb1
  dsimp only
  go_wp2_with fail
  obtain ⟨wo, rfl⟩ : ∃ wo : World, wo = w1 := ⟨_, rfl⟩
  refine wp_fresh (fun W => OwnB W wo.heap.size (.slice (some ⟨wo.heap.size, 0, none⟩) 0 560) [] ∧ Below wo.heap.size wo W) ⟨World.ownsRow_made wo _ 560 (Nat.le_refl _) (by unfold maxLen; omega) (size_madeCells _ _), balloc wo _⟩ ?_
  rintro W1 ⟨ho, hb⟩
  replace ho := Lib.hid ho
  replace hb := Lib.hid hb
  clear hdg hmk
  go_loopw [8, 9, 10, 27] (fun r _ _ t wr => ∃ k : Nat, k ≤ 35 ∧ t = .int .i64 k ∧ Hid (OwnB wr wo.heap.size r (recEnds d sig k)) ∧ Hid (Below wo.heap.size wo wr)) (fun _ _ _ t _ => 35 - (intOf t).toNat)
  case atStart => exact ⟨0, by omega, rfl, ho, hb⟩
  case round =>
    clear ho hb
    obtain ⟨k, hk, rfl, ho, hb⟩ := hrel
    by_cases hlt : k < 35
    · have hdk := hlt16.out k hlt
      have hst := Lib.hid (hstep.out k)
      have hal : Hid ((recEnds d sig k).length = 16 * k) := hEl.out k hk
      have hw01 := bgo hb1.out hb.out
      obtain ⟨A5, c5, y0, g3, g4, hsee⟩ := hcell2.out k hlt
      have hxl := Lib.hid (hel'.out k hlt)
      have hch := chain_any _ _ _ ((15 - ds.getD k 0 : Nat) : Int) wr (hsee.below (hw01.mono hB)) (Nat.le_trans hB hw01.size) (by rw [hxl.out]; omega)
      rw [chainN_nat _ (by omega)] at hch
      have x0 := (hb.out.cell (p := ⟨b, o + k, none⟩) hbB).trans (hcell.out k hlt)
      have y1 := (hw01.cell (p := ⟨b2, o2 + k, none⟩) (Nat.lt_of_lt_of_le hbB2 hB)).trans y0
      have hcl16 : Hid ((chainH (15 - ds.getD k 0) (sig.getD k [])).length = 16) := chainH_len _ _ hxl.out
      rw [hxl.out] at y1 hch
      replace hch := Lib.hid hch
      generalize recEnds d sig k = row at *
      generalize sig.getD k [] = x at *
      rw [show (((15 - ds.getD k 0 : Nat)) : Int) = 15 - ((ds.getD k 0 : Nat) : Int) from by omega] at hch
      generalize chainH (15 - ds.getD k 0) x = l at *
      generalize ds.getD k 0 = dk at *
      have i0 : (0 : Int) ≤ (k : Int) := by omega
      have i1 : (k : Int) < 35 := by omega
      have i2 : (dk : Int) < 16 := by omega
      obtain ⟨Ar, cr, rfl, -, -⟩ := ho.out.sees.mk_
      clear hw01 y0 hsee
      go_wp2_with fail
      refine hch.out.mono ?_
      rintro e w3 ⟨v3, rfl, h3, hb3, hf3⟩
      have ho3 := Lib.hid (ho.out.below hb3)
      have hw3 := Lib.hid (bgo hb.out hb3)
      have hl3 := Lib.hid (show row.length + l.length ≤ 140737488355328 by rw [hal.out, hcl16.out]; omega)
      replace h3 := Lib.hid h3
      clear hb3 hch hb ho x0 y1
      dsimp only
      go_wp2_with (at_builtin; refine wpList_app (by rfl) _ _ rfl wo.heap.size _ row rfl ho3.out _ _ l rfl h3.out hl3.out hw3.out.size ?_)
      intro v' w' hW2 hb2
      have hW2 := Lib.hid hW2
      have hb2 := Lib.hid hb2
      go_wp2_with fail
      go_roundw
      case rel => exact ⟨k + 1, by omega, by go_num, by rw [hst.out]; exact hW2.out, hw3.out.trans hb2.out⟩
      case measure => simp [intOf]; omega
    · have hkn : k = 35 := by omega
      rw [hkn] at ho
      have hsh := short_any _ _ _ _ ho.out.sees (Nat.le_refl _) (by rw [hEl.out 35 (by omega)]; omega)
      rw [← hfin.out] at hsh
      replace hsh := Lib.hid hsh
      generalize recEnds d sig 35 = row at *
      replace hkn := Lib.hid hkn
      obtain ⟨Ar, cr, rfl, -, -⟩ := ho.out.sees.mk_
      go_wp2_with fail
      refine hsh.out.mono ?_
      rintro e w2 ⟨v2, rfl, h2, hb2, hf2⟩
      dsimp only
      go_wp2_with fail
      go_returns
      exact ⟨v2, rfl, h2, bgo (bgo hb1.out hb.out) hb2, hf2.mono (bgo hb1.out hb.out).size⟩
end
section
open Go.RowKit
set_option linter.unusedVariables false
attribute [local go_sem ↓] Go.wp_at_zero Go.wp_at_succ
theorem slice_sizeMap : (Tryz.prog.info? 23).map (·.size) = some 1 := by kernel_rfl
/-- copy into a row that is known whole: only this row's block is turned. -/
theorem wp_copyG {o : Oper} {a : Act} {w : World} {K : Act → World → Prop} {Q : Exit → Act → World → Prop} (d s : Operand) (T : TypeId)
    (ho : o.op = .call { callee := .builtin .copy, args := #[d, s], argTypes := #[T, T] }) (E : TypeId) (hu : Tryz.prog.underlying T = some (.slice E)) (hsz : (Tryz.prog.info? E).map (·.size) = some 1)
    (g off dLen dCap : Nat) (ad : Addr) (sLen sCap : Nat) (hd : a.eval d = .slice (some ⟨g, off, none⟩) dLen dCap) (hs : a.eval s = .slice (some ad) sLen sCap)
    (cur : List Value) (t : TypeId) (hg : w.heap[g]? = some (.cells cur.toArray t (0, 0))) (cs : List Value) (hn : cs.length = Nat.min sLen dLen)
    (hsrc : ∀ j v, cs[j]? = some v → w.cell? (ad.add j) = some v) (hfit : off + cs.length ≤ cur.length) (h1 : ∀ v ∈ cs, v.oneCell' = true)
    (h : ∀ w', Hid (w'.heap[g]? = some (.cells (splice cur off cs).toArray t (0, 0))) → w.grownBy w' (some g) → K (a.put o.dst (goInt cs.length)) w') : o.wp Tryz.prog a w K Q := by
  have hrun := run_copy_row (P := Tryz.prog) w T T o.type E g off dLen dCap ad sLen sCap cur.toArray t cs hu hsz hg hn hsrc (by simpa using hfit) h1
  unfold Oper.wp
  simp [execOp, ho, resolve, invoke, builtin, hd, hs, hrun, Result.andThen]
  refine h _ (show _ = _ by simpa [splice] using setRow_heap w g _ _ t _ hg) ⟨rfl, rfl, rfl, by simp [World.setRow], fun k hk hne => setRow_other w g k _ (fun e => hne (by rw [e]))⟩
theorem wpList_copyG {ops : Array Oper} {rest : List Oper} {o : Oper} {a : Act} {w : World} {Q : Exit → Act → World → Prop} (hgd : o.guard = none) (d s : Operand) (T : TypeId)
    (ho : o.op = .call { callee := .builtin .copy, args := #[d, s], argTypes := #[T, T] }) (E : TypeId) (hu : Tryz.prog.underlying T = some (.slice E)) (hsz : (Tryz.prog.info? E).map (·.size) = some 1)
    (g off dLen dCap : Nat) (ad : Addr) (sLen sCap : Nat) (hd : a.eval d = .slice (some ⟨g, off, none⟩) dLen dCap) (hs : a.eval s = .slice (some ad) sLen sCap)
    (cur : List Value) (t : TypeId) (hg : w.heap[g]? = some (.cells cur.toArray t (0, 0))) (cs : List Value) (hn : cs.length = Nat.min sLen dLen)
    (hsrc : ∀ j v, cs[j]? = some v → w.cell? (ad.add j) = some v) (hfit : off + cs.length ≤ cur.length) (h1 : ∀ v ∈ cs, v.oneCell' = true)
    (h : ∀ w', Hid (w'.heap[g]? = some (.cells (splice cur off cs).toArray t (0, 0))) → w.grownBy w' (some g) → wpList Tryz.prog ops Q rest (a.put o.dst (goInt cs.length)) w') : wpList Tryz.prog ops Q (o :: rest) a w :=
  wpList_plain hgd fun _ hK => wp_copyG d s T ho E hu hsz g off dLen dCap ad sLen sCap hd hs cur t hg cs hn hsrc hfit h1 fun w' h2 h3 => hK _ _ (h w' h2 h3)
theorem step_copyG {ops : Array Oper} {o : Oper} {a : Act} {w : World} {K : Act → World → Prop} {Q : Exit → Act → World → Prop} {F : Prop} (hgd : o.guard = none) (d s : Operand) (T : TypeId)
    (ho : o.op = .call { callee := .builtin .copy, args := #[d, s], argTypes := #[T, T] }) (E : TypeId) (hu : Tryz.prog.underlying T = some (.slice E)) (hsz : (Tryz.prog.info? E).map (·.size) = some 1)
    (g off dLen dCap : Nat) (ad : Addr) (sLen sCap : Nat) (hd : a.eval d = .slice (some ⟨g, off, none⟩) dLen dCap) (hs : a.eval s = .slice (some ad) sLen sCap)
    (cur : List Value) (t : TypeId) (hg : w.heap[g]? = some (.cells cur.toArray t (0, 0))) (cs : List Value) (hn : cs.length = Nat.min sLen dLen)
    (hsrc : ∀ j v, cs[j]? = some v → w.cell? (ad.add j) = some v) (hfit : off + cs.length ≤ cur.length) (h1 : ∀ v ∈ cs, v.oneCell' = true)
    (h : ∀ w', Hid (w'.heap[g]? = some (.cells (splice cur off cs).toArray t (0, 0))) → w.grownBy w' (some g) → K (a.put o.dst (goInt cs.length)) w') :
    if Region.wanted o (yielded ops a.tmps) = true then Oper.wp Tryz.prog o a w K Q else F := by
  have hw : Region.wanted o (yielded ops a.tmps) = true := by simp [Region.wanted, hgd]
  rw [if_pos hw]
  exact wp_copyG d s T ho E hu hsz g off dLen dCap ad sLen sCap hd hs cur t hg cs hn hsrc hfit h1 h
theorem zeroL_size (n : Nat) : (Builtin.zeroCells (Value.slice none 0 0).cells n).size = n := by simp [Builtin.zeroCells, Value.cells]
set_option maxRecDepth 100000 in
theorem growL_any (n : Nat) (hn : n ≤ 1099511627776) (w : World) :
    Calls Tryz.prog 129 #[.slice none 0 0, .int .i64 (n : Int)] w (GivesL [] w) := by
  obtain ⟨i, hi, hz, hs, hb⟩ := info_parts slice_info
  have n0 : ¬ ((n : Int) < 0) := by omega
  go_enter Tryz.func129, Tryz.ntmps129
  by_cases h0 : n = 0
  · subst h0
    go_wp2_with fail
    go_ret
    exact ⟨_, rfl, OwnL.nil _ _, Below.refl _ _⟩
  · have h1 : (0 : Int) < (n : Int) := by omega
    have hr := Lib.run_append_nil_zeros (P := Tryz.prog) w 35 3 35 23 i (.slice none 0 0) .i64 .i64 Tryz.underlying35 Tryz.underlying3 hi hz n (by omega) (by omega) (by omega) (by rw [hb]; omega)
    go_wp2_with (at_builtin; refine Lib.wpList_append_run _ rfl _ _ _ _ rfl _ _ rfl rfl _ _ hr ?_)
    go_ret
    refine ⟨.slice (some ⟨w.heap.size, 0, none⟩) 0 (grownCap w n 0 23), rfl, ?_, ((Below.refl _ _).alloc (Nat.le_refl _) _).drew⟩
    have hg := grownCap_ge w n 0 23
    refine ⟨[], (World.ownsRow_made (base := w.heap.size) (e := 23) (size := 1) w _ (grownCap w n 0 23) (Nat.le_refl _) (grownCap_le_maxLen w n 0 23 (by unfold maxLen; omega)) (by
      have h1 := zeroL_size n
      have h2 := zeroL_size (grownCap w n 0 23 - n)
      rw [Array.size_append]
      simp only [Value.cells] at h1 h2 ⊢
      omega)).drew, fun k hk => absurd hk (by simp)⟩
/-- The value shows these rows of lists. -/
def SeesLL (w : World) (B : Nat) (u : Value) (lss : List (List Bs)) : Prop := ∃ vs : List Value, Sees w B u 1 lss.length vs ∧ ∀ k, k < lss.length → ∃ v, vs[k]? = some v ∧ SeesL w B v (lss.getD k [])
theorem SeesLL.mk_ {w : World} {B : Nat} {u : Value} {ls : List (List Bs)} (h : SeesLL w B u ls) : ∃ A c, u = .slice A ls.length c ∧ ls.length ≤ c ∧ c ≤ maxLen := by
  obtain ⟨vs, h, _⟩ := h
  exact h.mk_
theorem SeesLL.at_ {w : World} {B : Nat} {A : Option Addr} {n c : Nat} {ls : List (List Bs)} (h : SeesLL w B (.slice A n c) ls) (hn : 0 < ls.length) :
    ∃ b o, A = some ⟨b, o, none⟩ ∧ b < B ∧ ∀ k, k < ls.length → ∃ A' c', w.cell? ⟨b, o + k, none⟩ = some (.slice A' (ls.getD k []).length c') ∧ (ls.getD k []).length ≤ c' ∧ c' ≤ maxLen ∧ SeesL w B (.slice A' (ls.getD k []).length c') (ls.getD k []) := by
  obtain ⟨vs, hs, hv⟩ := h
  obtain ⟨_, A', c', e, h1, h2, h3⟩ := hs
  injection e with e1 e2 e3
  subst e1 e2 e3
  obtain ⟨b, o, e, hb, hc⟩ := h3 hn
  refine ⟨b, o, e, hb, fun k hk => ?_⟩
  obtain ⟨v, hv1, hv2⟩ := hv k hk
  obtain ⟨A2, c2, rfl, g1, g2⟩ := hv2.mk_
  exact ⟨A2, c2, hc k _ hv1, g1, g2, hv2⟩
theorem flatL_step (ls : List (List Bs)) (k : Nat) (h : k < ls.length) : (ls.take (k + 1)).flatten = (ls.take k).flatten ++ ls.getD k [] := by
  rw [List.take_succ_eq_append_getElem h, List.flatten_append, List.getD_eq_getElem?_getD, List.getElem?_eq_getElem h]
  simp
theorem flatL_le (ls : List (List Bs)) (k : Nat) : (ls.take k).flatten.length ≤ ls.flatten.length := by
  conv => rhs; rw [← List.take_append_drop k ls, List.flatten_append, List.length_append]
  omega
def sumLL (ls : List (List Bs)) (k : Nat) : Nat := (ls.take k).flatten.length
theorem sumLL_step (ls : List (List Bs)) (k : Nat) (h : k < ls.length) : sumLL ls (k + 1) = sumLL ls k + (ls.getD k []).length := by
  rw [sumLL, flatL_step ls k h, List.length_append]; rfl
theorem elts_of_sees {w : World} {B : Nat} {u v : Value} {ls : List Bs} (h : SeesL w B u ls) (hB : B ≤ w.heap.size) (hv : ∀ k, v.ownBlock = some k → B ≤ k) :
    ∃ vs : List Value, Sees w B u 1 ls.length vs ∧ ∀ k, k < ls.length → ∃ y, vs[k]? = some y ∧ Elt w v y (ls.getD k []) := by
  obtain ⟨vs, h1, h2⟩ := h
  exact ⟨vs, h1, fun k hk => by obtain ⟨y, e1, e2⟩ := h2 k hk; exact ⟨y, e1, Elt.of_old e2 hB hv⟩⟩
set_option maxRecDepth 100000 in
theorem concatL_any (B : Nat) (u : Value) (ls : List (List Bs)) (w : World) (hu : SeesLL w B u ls) (hu2 : ∀ W, Below B w W → SeesLL W B u ls) (hB : B ≤ w.heap.size) (hlen : ls.flatten.length ≤ 1048576) :
    Calls Tryz.prog 113 #[u] w (GivesL ls.flatten w) := by
  obtain ⟨A, c, rfl, hc1, hc2⟩ := hu.mk_
  have hm : ls.length ≤ 9223372036854775807 := by unfold maxLen at hc2; omega
  replace hu2 := Lib.hid hu2
  go_enter Tryz.func113, Tryz.ntmps113
  go_wp2_with fail
  go_loopw [3, 5, 11] (fun s _ t wr => ∃ k : Nat, k ≤ ls.length ∧ s = .int .i64 (sumLL ls k : Int) ∧ t = .int .i64 k ∧ wr = w) (fun _ _ t _ => ls.length - (intOf t).toNat)
  case atStart => exact ⟨0, by omega, rfl, rfl, rfl⟩
  case round =>
    obtain ⟨k, hk, rfl, rfl, rfl⟩ := hrel
    by_cases hlt : k < ls.length
    · obtain ⟨b, o, rfl, hb, hcell⟩ := hu.at_ (by omega)
      obtain ⟨A', c', hc, g1, g2, hsee⟩ := hcell k hlt
      have hst := Lib.hid (sumLL_step ls k hlt)
      have hle := flatL_le ls (k + 1)
      have hd : (ls.take (k + 1)).flatten.length = sumLL ls (k + 1) := rfl
      rw [hd, hst.out] at hle
      generalize sumLL ls k = s at *
      generalize ls.getD k [] = m at *
      clear hcell hu hsee hd
      have i0 : (0 : Int) ≤ (k : Int) := by omega
      have i1 : (k : Int) < (ls.length : Int) := by omega
      have i2 : ¬ ((s : Int) + (m.length : Int) < 0) := by omega
      go_wp2_with fail
      go_roundw
      case rel => exact ⟨k + 1, by omega, by rw [hst.out]; rfl, by go_num, trivial⟩
      case measure => simp [intOf]; omega
    · obtain ⟨s, hs⟩ : ∃ s, sumLL ls k = s := ⟨_, rfl⟩
      have hs2 : s ≤ 1048576 := by rw [← hs]; exact Nat.le_trans (flatL_le ls k) hlen
      rw [hs]
      have hB' := Lib.hid hB
      clear hu hB
      go_wp2_with (go_at_call 129; refine (growL_any s (by omega) _).mono ?_; rintro e w' ⟨v, rfl, hW, hbw⟩)
      have hW := Lib.hid hW
      have hbw := Lib.hid hbw
      rename_i kk _ _
      obtain ⟨w, rfl⟩ : ∃ w0 : World, w0 = wr := ⟨_, rfl⟩
      go_loopw [6, 8, 27] (fun r _ t wr => ∃ k : Nat, k ≤ ls.length ∧ t = .int .i64 k ∧ Hid (OwnL wr w.heap.size r (ls.take k).flatten) ∧ Hid (Below w.heap.size w wr)) (fun _ _ t _ => ls.length - (intOf t).toNat)
      case atStart => exact ⟨0, by omega, rfl, hW, hbw⟩
      case round =>
        clear hW hbw
        obtain ⟨k, hk, rfl, hW, hbw⟩ := hrel
        by_cases hlt : k < ls.length
        · obtain ⟨b, o, rfl, hb, hcell⟩ := (hu2.out _ (hbw.out.mono hB'.out)).at_ (by omega)
          obtain ⟨A', c', x0, g1, g2, hsee⟩ := hcell k hlt
          obtain ⟨vs, hs1, hs2'⟩ := elts_of_sees (v := _) hsee (Nat.le_trans hB'.out hbw.out.size) (fun k hk => Nat.le_trans hB'.out (hW.out.lt k hk).1)
          replace hs1 := Lib.hid hs1
          replace hs2' := Lib.hid hs2'
          have hst := Lib.hid (flatL_step ls k hlt)
          have hle := flatL_le ls (k + 1)
          rw [hst.out, List.length_append] at hle
          generalize ls.getD k [] = m at *
          clear hcell hsee
          have i0 : (0 : Int) ≤ (k : Int) := by omega
          have i1 : (k : Int) < (ls.length : Int) := by omega
          go_wp2_with (at_builtin; refine wpList_appE (by rfl) _ _ 35 Tryz.underlying35 rfl w.heap.size _ _ rfl hW.out B _ m vs rfl hs1.out hs2'.out (by omega) hbw.out.size ?_)
          intro v' w' hW2 hb2
          have hW2 := Lib.hid hW2
          have hb2 := Lib.hid hb2
          go_wp2_with fail
          go_roundw
          case rel => exact ⟨k + 1, by omega, by go_num, by rw [hst.out]; exact hW2.out, hbw.out.trans hb2.out⟩
          case measure => simp [intOf]; omega
        · have he : (ls.take k).flatten = ls.flatten := by rw [List.take_of_length_le (by omega)]
          rw [he] at hW
          go_wp2_with fail
          go_ret
          exact ⟨_, rfl, hW.out, hbw.out⟩
end
end Go.Proofs.YtamdgjgommejjaaGreat

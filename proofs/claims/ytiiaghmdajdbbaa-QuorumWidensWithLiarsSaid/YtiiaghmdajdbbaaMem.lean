/- Slices in memory, as lists of cells: what a slice value shows, how this survives new memory, cuts, appends. No program in sight. -/
import Derived.Test.YtiiaghmdajdbbaaRows
import Derived.Below
import Derived.Laws.OwnMore
import Derived.Laws.Slices
import Derived.Laws.CopyOwn
import Derived.Deep.Draws
import Derived.Lib.Hide
import Derived.WalkKit
import Derived.Maps.AppendAt
import Derived.Deep.QuietTactic
namespace Go.Proofs.Ytiiaghmdajdbbaa
open Go.RowKit

/-- A byte as a cell. -/
def byV (b : UInt8) : Value := .int .u8 (b.toNat : Int)
theorem ret_int {k : IntKind} {a b : Int} (h : a = b) : Ending.returned (.int k a) = .returned (.int k b) := by rw [h]
theorem ret_bool {a b : Bool} (h : a = b) : Ending.returned (.bool a) = .returned (.bool b) := by rw [h]
theorem below_drewN {B : Nat} {a w : World} (h : Below B a w) (n : Nat) : Below B a (w.drewN n) := ⟨h.os, h.tape, h.output, h.size, h.block⟩
theorem grown_of_below {w w' : World} (h : Below w.heap.size w w') (row : Option Nat) : w.grownBy w' row := ⟨h.os, h.tape, h.output, h.size, fun k hk _ => h.block k hk⟩
theorem own_below {w w' : World} {base size n : Nat} {e : TypeId} {v : Value} {xs : List Value} (h : w.ownsRow base e size v n xs) (hb : Below w.heap.size w w') : w'.ownsRow base e size v n xs :=
  h.kept (grown_of_below hb none) (by cases v.ownBlock <;> simp)
theorem own_drewN {w : World} {base size n : Nat} {e : TypeId} {v : Value} {xs : List Value} (h : w.ownsRow base e size v n xs) (k : Nat) : (w.drewN k).ownsRow base e size v n xs := h
theorem add_zero' (b o k : Nat) : (⟨b, o, none⟩ : Addr).add k = ⟨b, o + k, none⟩ := by
  unfold Addr.add; split
  · subst_vars; rfl
  · rfl

theorem quiet_on {P : Program} {f : FuncId} {args : Array Value} {w : World} {a n : Nat} {v : Value} (h : Calls P f args (w.drewN (a + n)) fun e w' => e = .returned v ∧ w' = w.drewN (a + n)) :
    Calls P f args (w.drewN (a + n)) fun e w' => e = .returned v ∧ ∃ m, w' = w.drewN (a + m) := h.mono fun _ _ ⟨he, hw⟩ => ⟨he, n, hw⟩
theorem set_block (w : World) (g o : Nat) (v : Value) {cs : Array Value} {T : TypeId} (h : w.heap[g]? = some (.cells cs T)) : (w.setCell ⟨g, o, none⟩ v).heap[g]? = some (.cells (cs.setIfInBounds o v) T) := by
  simp [World.setCell, Array.getElem?_modify, h]
theorem block_cell {w : World} {g : Nat} {l : List Value} {T : TypeId} (h : w.heap[g]? = some (.cells l.toArray T)) (j : Nat) : w.cell? ⟨g, j, none⟩ = l[j]? := by
  rw [cell_of_row w g j _ _ _ h]; simp
theorem take_cells {w : World} {g n : Nat} {l : List Value} {T : TypeId} (h : w.heap[g]? = some (.cells l.toArray T)) (j : Nat) (v : Value) (hj : (l.take n)[j]? = some v) : w.cell? ((⟨g, 0, none⟩ : Addr).add j) = some v := by
  rw [add_zero', Nat.zero_add, block_cell h]
  rw [List.getElem?_take] at hj
  split at hj
  · exact hj
  · cases hj
theorem grown_drew {a w : World} {row : Option Nat} (h : a.grownBy w row) : a.grownBy w.drew row := ⟨h.os, h.tape, h.output, h.size, h.block⟩
theorem only_setCell {a w : World} {g : Nat} (h : a.grownBy w (some g)) {p : Addr} (hp : p.block = g ∨ a.heap.size ≤ p.block) (u : Value) : a.grownBy (w.setCell p u) (some g) :=
  ⟨h.os, h.tape, h.output, by simpa [World.setCell] using h.size, fun i hi hne => (Below.heap_setCell w p u i (fun e => by
    subst e
    rcases hp with hp | hp
    · exact hne (by rw [hp])
    · omega)).trans (h.block i hi hne)⟩
/-- The value v is a slice of n elements of 'size' cells each; these cells are xs; they lie below block B. -/
def Sees (w : World) (B : Nat) (v : Value) (size n : Nat) (xs : List Value) : Prop :=
  xs.length = n * size ∧ ∃ A c, v = .slice A n c ∧ n ≤ c ∧ c ≤ maxLen ∧
    (0 < n → ∃ b o, A = some ⟨b, o, none⟩ ∧ b < B ∧ ∀ j u, xs[j]? = some u → w.cell? ⟨b, o + j, none⟩ = some u)

section
variable {w w' : World} {B B' size n : Nat} {v : Value} {xs : List Value}
theorem Sees.nil (w : World) (B size : Nat) : Sees w B (.slice none 0 0) size 0 [] := ⟨by simp, none, 0, rfl, Nat.le_refl _, Nat.zero_le _, fun h => absurd h (by omega)⟩
theorem Sees.len (h : Sees w B v size n xs) : xs.length = n * size := h.1
theorem Sees.mk_ (h : Sees w B v size n xs) : ∃ A c, v = .slice A n c ∧ n ≤ c ∧ c ≤ maxLen := by
  obtain ⟨_, A, c, hv, h1, h2, _⟩ := h
  exact ⟨A, c, hv, h1, h2⟩
theorem Sees.at_ {A : Option Addr} {c : Nat} (h : Sees w B (.slice A n c) size n xs) (hn : 0 < n) : ∃ b o, A = some ⟨b, o, none⟩ ∧ b < B ∧ ∀ j u, xs[j]? = some u → w.cell? ⟨b, o + j, none⟩ = some u := by
  obtain ⟨_, A', c', hv, _, _, h3⟩ := h
  injection hv with e1 e2 e3
  subst e1; exact h3 hn
theorem Sees.keep (h : Sees w B v size n xs) (hk : ∀ p : Addr, p.block < B → w'.cell? p = w.cell? p) : Sees w' B v size n xs := by
  obtain ⟨h0, A, c, hv, h1, h2, h3⟩ := h
  refine ⟨h0, A, c, hv, h1, h2, fun hn => ?_⟩
  obtain ⟨b, o, e, hb, hc⟩ := h3 hn
  exact ⟨b, o, e, hb, fun j u hu => (hk _ hb).trans (hc j u hu)⟩
theorem Sees.more (h : Sees w B v size n xs) (hB : B ≤ B') : Sees w B' v size n xs := by
  obtain ⟨h0, A, c, hv, h1, h2, h3⟩ := h
  refine ⟨h0, A, c, hv, h1, h2, fun hn => ?_⟩
  obtain ⟨b, o, e, hb, hc⟩ := h3 hn
  exact ⟨b, o, e, by omega, hc⟩
theorem Sees.below (h : Sees w B v size n xs) (hb : Below B w w') : Sees w' B v size n xs := h.keep fun _ hp => hb.cell hp
theorem Sees.drewN (h : Sees w B v size n xs) (k : Nat) : Sees (w.drewN k) B v size n xs := h
theorem Sees.drew (h : Sees w B v size n xs) : Sees w.drew B v size n xs := h
theorem Sees.alloc (h : Sees w B v size n xs) (hB : B ≤ w.heap.size) (o : Obj) : Sees (w.alloc o) B v size n xs := h.keep fun p hp => World.cell?_alloc_lt w o p (by omega)
theorem Sees.setCell (h : Sees w B v size n xs) {p : Addr} (hB : B ≤ p.block) (u : Value) : Sees (w.setCell p u) B v size n xs :=
  h.keep fun q hq => World.cell?_setCell_other w p q u (fun e => by subst e; omega)
theorem Sees.grown (h : Sees w B v size n xs) {row : Option Nat} (hg : w.grownBy w' row) (hB : B ≤ w.heap.size) (hr : ∀ g, row = some g → B ≤ g) : Sees w' B v size n xs :=
  h.keep fun p hp => World.cell?_of_block (hg.block p.block (by omega) (fun e => by have := hr _ e.symm; omega))
theorem Sees.of_own {base : Nat} {e : TypeId} (h : w.ownsRow base e size v n xs) : Sees w w.heap.size v size n xs := by
  refine ⟨h.1, ?_⟩
  rcases h.2 with ⟨rfl, rfl⟩ | ⟨g, cap, cur, rfl, hb, hh, hc, hm, hcur, htake⟩
  · exact ⟨none, 0, rfl, Nat.le_refl _, Nat.zero_le _, fun h => absurd h (by omega)⟩
  · refine ⟨_, cap, rfl, hc, hm, fun hn => ⟨g, 0, rfl, (Array.getElem?_eq_some_iff.1 hh).1, fun j u hu => ?_⟩⟩
    have h1 : j < n * size := by
      have := (List.getElem?_eq_some_iff.1 hu).1
      rw [h.1] at this; exact this
    rw [Nat.zero_add, h.cellAt j h1]; exact hu

/-- Where a cut begins: as the model has it (a cut at the capacity keeps the old address). -/
def cutA (A : Option Addr) (c l size : Nat) : Option Addr := if c = l then A else A.map (·.add (l * size))
theorem Sees.cut {A : Option Addr} {c l h' : Nat} (h : Sees w B (.slice A n c) size n xs) (hl : l ≤ h') (hh : h' ≤ n) :
    Sees w B (.slice (cutA A c l size) (h' - l) (c - l)) size (h' - l) ((xs.drop (l * size)).take ((h' - l) * size)) := by
  have hl0 := h.1
  obtain ⟨_, A', c', hv, h1, h2, h3⟩ := h
  injection hv with e1 e2 e3
  subst e1 e3
  refine ⟨?_, _, _, rfl, by omega, by unfold maxLen at *; omega, fun hn => ?_⟩
  · rw [List.length_take, List.length_drop, hl0]
    have : (h' - l) * size ≤ n * size - l * size := by rw [← Nat.sub_mul]; exact Nat.mul_le_mul_right _ (by omega)
    omega
  · obtain ⟨b, o, e, hb, hc⟩ := h3 (by omega)
    refine ⟨b, o + l * size, ?_, hb, fun j u hu => ?_⟩
    · unfold cutA
      rw [if_neg (by omega), e, Option.map_some, add_zero']
    · have hj : j < (h' - l) * size := by
        have := (List.getElem?_eq_some_iff.1 hu).1
        rw [List.length_take] at this; omega
      rw [List.getElem?_take, if_pos hj, List.getElem?_drop] at hu
      have := hc _ _ hu
      rw [← this, Nat.add_assoc]
end

section
variable {P : Program}
/-- The run of a cut, its address behind a name. -/
theorem run_cut (t : TypeId) (ht : P.underlying t = some (.slice (P.elem t))) (size : Nat) (hs : ∀ w, (sizeOf (P.elem t)).run P w = .ok size w) (A : Option Addr) (n c : Nat) (kl kh : IntKind) (l h : Int) (h0 : 0 ≤ l) (h1 : l ≤ h) (h2 : h ≤ c) (w : World) :
    (Instr.slice t (.slice A n c) (some (.int kl l)) (some (.int kh h)) none).run P w = .ok (.slice (cutA A c l.toNat size) (h.toNat - l.toNat) (c - l.toNat)) w := by
  rw [run_slice_lh w t A n c ht kl kh l h h0 h1 h2, hs]; rfl
theorem run_cut_from (t : TypeId) (ht : P.underlying t = some (.slice (P.elem t))) (size : Nat) (hs : ∀ w, (sizeOf (P.elem t)).run P w = .ok size w) (A : Option Addr) (n c : Nat) (kl : IntKind) (l : Int) (h0 : 0 ≤ l) (h1 : l ≤ n) (w : World) :
    (Instr.slice t (.slice A n c) (some (.int kl l)) none none).run P w = .ok (.slice (cutA A c l.toNat size) (n - l.toNat) (c - l.toNat)) w := by
  rw [run_slice_l w t A n c ht kl l h0 h1, hs]; rfl
theorem run_cut_to (t : TypeId) (ht : P.underlying t = some (.slice (P.elem t))) (size : Nat) (hs : ∀ w, (sizeOf (P.elem t)).run P w = .ok size w) (A : Option Addr) (n c : Nat) (kh : IntKind) (h : Int) (h0 : 0 ≤ h) (h2 : h ≤ c) (w : World) :
    (Instr.slice t (.slice A n c) none (some (.int kh h)) none).run P w = .ok (.slice (cutA A c 0 size) (h.toNat - 0) (c - 0)) w := by
  rw [run_slice_h w t A n c ht kh h h0 h2, hs]; rfl

/-- append onto a row of the call's own, the source whatever slice is seen. -/
theorem run_append_sees (w : World) (base : Nat) (t ty e : TypeId) (i : TypeInfo) (z : Value) (size bytes : Nat) (ht : P.underlying t = some (.slice e)) (hi : P.info? e = some i) (hz : i.zero = some z)
    (hsize : i.size = size) (hby : i.bytes = bytes) (hzs : z.cells.size = size) (hsz : 0 < size)
    (v : Value) (n : Nat) (xs : List Value) (hown : w.ownsRow base e size v n xs)
    (B : Nat) (u : Value) (m : Nat) (news : List Value) (hs : Sees w B u size m news) (h1 : ∀ u ∈ news, u.oneCell' = true)
    (h63 : n + m ≤ maxLen) (hbytes : (n + m) * bytes ≤ 140737488355328) (hbase : base ≤ w.heap.size) :
    ∃ v' w', (Builtin.append_ #[t, t] ty #[v, u]).run P w = .ok v' w' ∧ w'.ownsRow base e size v' (n + m) (xs ++ news) ∧ w.grownBy w' v.ownBlock ∧
      (v'.ownBlock = v.ownBlock ∨ v'.ownBlock = some w.heap.size) := by
  have hl := hs.1
  obtain ⟨_, A, c, rfl, hc1, hc2, h3⟩ := hs
  rcases Nat.eq_zero_or_pos m with h0 | h0
  · subst h0
    have hn : news = [] := List.eq_nil_of_length_eq_zero (by simpa using hl)
    subst hn
    rcases A with _ | ad
    · refine ⟨v, w, ?_, by simpa using hown, ⟨rfl, rfl, rfl, Nat.le_refl _, fun _ _ _ => rfl⟩, .inl rfl⟩
      rcases hown.2 with ⟨rfl, rfl⟩ | ⟨g, cap, cur, rfl, _, _, hnc, _⟩
      · simp [Builtin.append_, run_underlying ht, sizeOf, typeInfo, hi, Builtin.lenOf, Builtin.firstCells]
      · simp [Builtin.append_, run_underlying ht, sizeOf, typeInfo, hi, Builtin.lenOf, Builtin.firstCells, hnc, storeCells]
    · obtain ⟨v', w', hrun, h2, h3, _, h5⟩ := run_append_own_at (P := P) w base t ty e i z size bytes ht hi hz hsize hby hzs hsz v n xs hown ad 0 c [] (by simp) (by simp) (by simp) h63 hbytes hbase
      exact ⟨v', w', hrun, h2, h3, h5⟩
  · obtain ⟨b, o, rfl, hb, hc⟩ := h3 h0
    obtain ⟨v', w', hrun, h2, h3, _, h5⟩ := run_append_own_at (P := P) w base t ty e i z size bytes ht hi hz hsize hby hzs hsz v n xs hown ⟨b, o, none⟩ m c news hl (fun j u hu => by rw [add_zero']; exact hc j u hu) h1 h63 hbytes hbase
    exact ⟨v', w', hrun, h2, h3, h5⟩

theorem wp_append_sees {o : Oper} {a : Act} {w : World} {K : Act → World → Prop} {Q : Exit → Act → World → Prop} (s x : Operand) (t : TypeId)
    (ho : o.op = .call { callee := .builtin .append, args := #[s, x], argTypes := #[t, t] })
    (base : Nat) (e : TypeId) (i : TypeInfo) (z : Value) (size bytes : Nat) (ht : P.underlying t = some (.slice e)) (hi : P.info? e = some i) (hz : i.zero = some z)
    (hsize : i.size = size) (hby : i.bytes = bytes) (hzs : z.cells.size = size) (hsz : 0 < size)
    (v : Value) (n : Nat) (xs : List Value) (hs : a.eval s = v) (hown : w.ownsRow base e size v n xs)
    (B : Nat) (u : Value) (m : Nat) (news : List Value) (hx : a.eval x = u) (hr : Sees w B u size m news) (h1 : ∀ u ∈ news, u.oneCell' = true)
    (h63 : n + m ≤ maxLen) (hbytes : (n + m) * bytes ≤ 140737488355328) (hbase : base ≤ w.heap.size)
    (h : ∀ v' w', w'.ownsRow base e size v' (n + m) (xs ++ news) → w.grownBy w' v.ownBlock → (v'.ownBlock = v.ownBlock ∨ v'.ownBlock = some w.heap.size) → K (a.put o.dst v') w') : o.wp P a w K Q := by
  obtain ⟨v', w', hrun, h2, h3, h4⟩ := run_append_sees (P := P) w base t o.type e i z size bytes ht hi hz hsize hby hzs hsz v n xs hown B u m news hr h1 h63 hbytes hbase
  unfold Oper.wp execOp
  simp only [ho, resolve, invoke, builtin, Sem.run_bind, Sem.run_pure, Result.andThen_ok, List.map_toArray, List.map_cons, List.map_nil, hs, hx, hrun]
  exact h v' w' h2 h3 h4
theorem wpList_append_sees {ops : Array Oper} {rest : List Oper} {o : Oper} {a : Act} {w : World} {Q : Exit → Act → World → Prop} (hgd : Region.wanted o (yielded ops a.tmps) = true) (s x : Operand) (t : TypeId)
    (ho : o.op = .call { callee := .builtin .append, args := #[s, x], argTypes := #[t, t] })
    (base : Nat) (e : TypeId) (i : TypeInfo) (z : Value) (size bytes : Nat) (ht : P.underlying t = some (.slice e)) (hi : P.info? e = some i) (hz : i.zero = some z)
    (hsize : i.size = size) (hby : i.bytes = bytes) (hzs : z.cells.size = size) (hsz : 0 < size)
    (v : Value) (n : Nat) (xs : List Value) (hs : a.eval s = v) (hown : w.ownsRow base e size v n xs)
    (B : Nat) (u : Value) (m : Nat) (news : List Value) (hx : a.eval x = u) (hr : Sees w B u size m news) (h1 : ∀ u ∈ news, u.oneCell' = true)
    (h63 : n + m ≤ maxLen) (hbytes : (n + m) * bytes ≤ 140737488355328) (hbase : base ≤ w.heap.size)
    (h : ∀ v' w', w'.ownsRow base e size v' (n + m) (xs ++ news) → w.grownBy w' v.ownBlock → (v'.ownBlock = v.ownBlock ∨ v'.ownBlock = some w.heap.size) → wpList P ops Q rest (a.put o.dst v') w') : wpList P ops Q (o :: rest) a w :=
  BigFrame.wpList_want hgd fun _ hK => wp_append_sees s x t ho base e i z size bytes ht hi hz hsize hby hzs hsz v n xs hs hown B u m news hx hr h1 h63 hbytes hbase fun v' w' h2 h3 h4 => hK _ _ (h v' w' h2 h3 h4)
end
end Go.Proofs.Ytiiaghmdajdbbaa

/- A piece of my texts, cut out by slice.py: what a claim leans on. -/
import Derived.Laws.BitsAllLaws
import Derived.Laws.Bits64b
import Derived.RowKit
import Derived.WalkKit
import Derived.Test.YtcoehlmeegoofaaGreatRows
import Derived.Below
import Derived.Laws.OwnMore
import Derived.Laws.Slices
import Derived.Laws.CopyOwn
import Derived.Deep.Draws
import Derived.Lib.Hide
import Derived.Maps.AppendAt
import Derived.Deep.QuietTactic
import Derived.Shelf.Bytes.SlSmallAll
import Derived.WalkLawsBesides
import Derived.Handy
import Derived.Outline
import Derived.Laws.MathBits
import Derived.BigQuiet
import Derived.Deep.OwnRows
import Derived.Deep.RegionHeld3
import Derived.Deep.DrawnRows
import Derived.Lib.AppendZeros
import Derived.OwnWalk
import Derived.Lib.BufferMore
import Derived.Lib.Strings
import Derived.Lib.Slices
import Derived.Lib.Small
import Derived.Lib.Walk
import Derived.Lib.BitFns
import Derived.Lib.Overlaps
import Derived.Deep.DeepCutAuto
import Derived.RangeFuncBox
import Derived.RangeFuncLeaves
import Derived.Shelf.Abstract
import Derived.OwnWalkIn
import Derived.TacticsInMore
import Derived.LoopNIn
import Derived.LoopIn
import Derived.Sort.QuietIn
import Derived.Lib.SmallJoins
import Derived.ChangeSame
import Derived.ProofKit
import Derived.OpenShut
import Derived.Shelf.GgClosure.StringsIndexFuncTop
import Derived.Laws.RangeString
import Derived.Laws.RangeAny
import Derived.Lib.SlBytesConst
import Derived.Lib.AppendStr
namespace Go.Proofs.YtcoehlmeegoofaaGreat
section
open Go.RowKit
abbrev Wd := BitVec 32
end
section
open Go.RowKit
abbrev Bs := List UInt8
/-- The last n bytes of a number, the greatest first. -/
def putB : Nat → Nat → Bs
  | 0, _ => []
  | n + 1, v => putB n (v / 256) ++ [UInt8.ofNat v]
theorem putB_len (n v : Nat) : (putB n v).length = n := by
  induction n generalizing v with
  | zero => rfl
  | succ n ih => simp [putB, ih]
/-- The number in bytes, modulo 2^64. -/
def getB (l : Bs) : Nat := l.foldl (fun v x => (v * 256 + x.toNat) % 18446744073709551616) 0
structure St where
  a : Wd
  b : Wd
  c : Wd
  d : Wd
  e : Wd
  f : Wd
  g : Wd
  h : Wd
def stList (s : St) : List Wd := [s.a, s.b, s.c, s.d, s.e, s.f, s.g, s.h]
def outOf (l : List Wd) : Bs := l.flatMap fun x => putB 4 x.toNat
def out (s : St) : Bs := outOf (stList s)
end
section
open Go.RowKit
/-- A byte as a cell. -/
def byV (b : UInt8) : Value := .int .u8 (b.toNat : Int)
theorem ret_int {k : IntKind} {a b : Int} (h : a = b) : Ending.returned (.int k a) = .returned (.int k b) := by rw [h]
theorem ret_bool {a b : Bool} (h : a = b) : Ending.returned (.bool a) = .returned (.bool b) := by rw [h]
theorem grown_of_below {w w' : World} (h : Below w.heap.size w w') (row : Option Nat) : w.grownBy w' row := ⟨h.os, h.tape, h.output, h.size, fun k hk _ => h.block k hk⟩
theorem own_below {w w' : World} {base size n : Nat} {e : TypeId} {v : Value} {xs : List Value} (h : w.ownsRow base e size v n xs) (hb : Below w.heap.size w w') : w'.ownsRow base e size v n xs :=
  h.kept (grown_of_below hb none) (by cases v.ownBlock <;> simp)
theorem add_zero' (b o k : Nat) : (⟨b, o, none⟩ : Addr).add k = ⟨b, o + k, none⟩ := by
  unfold Addr.add; split
  · subst_vars; rfl
  · rfl
theorem set_block (w : World) (g o : Nat) (v : Value) {cs : Array Value} {T : TypeId} (h : w.heap[g]? = some (.cells cs T)) : (w.setCell ⟨g, o, none⟩ v).heap[g]? = some (.cells (cs.setIfInBounds o v) T) := by
  simp [World.setCell, Array.getElem?_modify, h]
theorem block_cell {w : World} {g : Nat} {l : List Value} {T : TypeId} (h : w.heap[g]? = some (.cells l.toArray T)) (j : Nat) : w.cell? ⟨g, j, none⟩ = l[j]? := by
  rw [cell_of_row w g j _ _ _ h]; simp
/-- The value v is a slice of n elements of 'size' cells each; these cells are xs; they lie below block B. -/
def Sees (w : World) (B : Nat) (v : Value) (size n : Nat) (xs : List Value) : Prop :=
  xs.length = n * size ∧ ∃ A c, v = .slice A n c ∧ n ≤ c ∧ c ≤ maxLen ∧
    (0 < n → ∃ b o, A = some ⟨b, o, none⟩ ∧ b < B ∧ ∀ j u, xs[j]? = some u → w.cell? ⟨b, o + j, none⟩ = some u)
section
variable {w w' : World} {B B' size n : Nat} {v : Value} {xs : List Value}
theorem Sees.nil (w : World) (B size : Nat) : Sees w B (.slice none 0 0) size 0 [] := ⟨by simp, none, 0, rfl, Nat.le_refl _, Nat.zero_le _, fun h => absurd h (by omega)⟩
theorem Sees.mk_ (h : Sees w B v size n xs) : ∃ A c, v = .slice A n c ∧ n ≤ c ∧ c ≤ maxLen := by
  obtain ⟨_, A, c, hv, h1, h2, _⟩ := h
  exact ⟨A, c, hv, h1, h2⟩
theorem Sees.at_ {A : Option Addr} {c : Nat} (h : Sees w B (.slice A n c) size n xs) (hn : 0 < n) : ∃ b o, A = some ⟨b, o, none⟩ ∧ b < B ∧ ∀ j u, xs[j]? = some u → w.cell? ⟨b, o + j, none⟩ = some u := by
  obtain ⟨_, A', c', hv, _, _, h3⟩ := h
  injection hv with e1 e2 e3
  subst e1; exact h3 hn
theorem Sees.keep (h : Sees w B v size n xs) (hk : ∀ p : Addr, p.block < B → w'.cell? p = w.cell? p) : Sees w' B v size n xs := by
  obtain ⟨h0, A, c, hv, h1, h2, h3⟩ := h
  refine ⟨h0, A, c, hv, h1, h2, fun hn => ?_⟩
  obtain ⟨b, o, e, hb, hc⟩ := h3 hn
  exact ⟨b, o, e, hb, fun j u hu => (hk _ hb).trans (hc j u hu)⟩
theorem Sees.more (h : Sees w B v size n xs) (hB : B ≤ B') : Sees w B' v size n xs := by
  obtain ⟨h0, A, c, hv, h1, h2, h3⟩ := h
  refine ⟨h0, A, c, hv, h1, h2, fun hn => ?_⟩
  obtain ⟨b, o, e, hb, hc⟩ := h3 hn
  exact ⟨b, o, e, by omega, hc⟩
theorem Sees.below (h : Sees w B v size n xs) (hb : Below B w w') : Sees w' B v size n xs := h.keep fun _ hp => hb.cell hp
theorem Sees.drew (h : Sees w B v size n xs) : Sees w.drew B v size n xs := h
theorem Sees.alloc (h : Sees w B v size n xs) (hB : B ≤ w.heap.size) (o : Obj) : Sees (w.alloc o) B v size n xs := h.keep fun p hp => World.cell?_alloc_lt w o p (by omega)
theorem Sees.setCell (h : Sees w B v size n xs) {p : Addr} (hB : B ≤ p.block) (u : Value) : Sees (w.setCell p u) B v size n xs :=
  h.keep fun q hq => World.cell?_setCell_other w p q u (fun e => by subst e; omega)
theorem Sees.grown (h : Sees w B v size n xs) {row : Option Nat} (hg : w.grownBy w' row) (hB : B ≤ w.heap.size) (hr : ∀ g, row = some g → B ≤ g) : Sees w' B v size n xs :=
  h.keep fun p hp => World.cell?_of_block (hg.block p.block (by omega) (fun e => by have := hr _ e.symm; omega))
theorem Sees.of_own {base : Nat} {e : TypeId} (h : w.ownsRow base e size v n xs) : Sees w w.heap.size v size n xs := by
  refine ⟨h.1, ?_⟩
  rcases h.2 with ⟨rfl, rfl⟩ | ⟨g, cap, cur, rfl, hb, hh, hc, hm, hcur, htake⟩
  · exact ⟨none, 0, rfl, Nat.le_refl _, Nat.zero_le _, fun h => absurd h (by omega)⟩
  · refine ⟨_, cap, rfl, hc, hm, fun hn => ⟨g, 0, rfl, (Array.getElem?_eq_some_iff.1 hh).1, fun j u hu => ?_⟩⟩
    have h1 : j < n * size := by
      have := (List.getElem?_eq_some_iff.1 hu).1
      rw [h.1] at this; exact this
    rw [Nat.zero_add, h.cellAt j h1]; exact hu
/-- Where a cut begins: as the model has it (a cut at the capacity keeps the old address). -/
def cutA (A : Option Addr) (c l size : Nat) : Option Addr := if c = l then A else A.map (·.add (l * size))
theorem Sees.cut {A : Option Addr} {c l h' : Nat} (h : Sees w B (.slice A n c) size n xs) (hl : l ≤ h') (hh : h' ≤ n) :
    Sees w B (.slice (cutA A c l size) (h' - l) (c - l)) size (h' - l) ((xs.drop (l * size)).take ((h' - l) * size)) := by
  have hl0 := h.1
  obtain ⟨_, A', c', hv, h1, h2, h3⟩ := h
  injection hv with e1 e2 e3
  subst e1 e3
  refine ⟨?_, _, _, rfl, by omega, by unfold maxLen at *; omega, fun hn => ?_⟩
  · rw [List.length_take, List.length_drop, hl0]
    have : (h' - l) * size ≤ n * size - l * size := by rw [← Nat.sub_mul]; exact Nat.mul_le_mul_right _ (by omega)
    omega
  · obtain ⟨b, o, e, hb, hc⟩ := h3 (by omega)
    refine ⟨b, o + l * size, ?_, hb, fun j u hu => ?_⟩
    · unfold cutA
      rw [if_neg (by omega), e, Option.map_some, add_zero']
    · have hj : j < (h' - l) * size := by
        have := (List.getElem?_eq_some_iff.1 hu).1
        rw [List.length_take] at this; omega
      rw [List.getElem?_take, if_pos hj, List.getElem?_drop] at hu
      have := hc _ _ hu
      rw [← this, Nat.add_assoc]
end
section
variable {P : Program}
/-- The run of a cut, its address behind a name. -/
theorem run_cut (t : TypeId) (ht : P.underlying t = some (.slice (P.elem t))) (size : Nat) (hs : ∀ w, (sizeOf (P.elem t)).run P w = .ok size w) (A : Option Addr) (n c : Nat) (kl kh : IntKind) (l h : Int) (h0 : 0 ≤ l) (h1 : l ≤ h) (h2 : h ≤ c) (w : World) :
    (Instr.slice t (.slice A n c) (some (.int kl l)) (some (.int kh h)) none).run P w = .ok (.slice (cutA A c l.toNat size) (h.toNat - l.toNat) (c - l.toNat)) w := by
  rw [run_slice_lh w t A n c ht kl kh l h h0 h1 h2, hs]; rfl
theorem run_cut_from (t : TypeId) (ht : P.underlying t = some (.slice (P.elem t))) (size : Nat) (hs : ∀ w, (sizeOf (P.elem t)).run P w = .ok size w) (A : Option Addr) (n c : Nat) (kl : IntKind) (l : Int) (h0 : 0 ≤ l) (h1 : l ≤ n) (w : World) :
    (Instr.slice t (.slice A n c) (some (.int kl l)) none none).run P w = .ok (.slice (cutA A c l.toNat size) (n - l.toNat) (c - l.toNat)) w := by
  rw [run_slice_l w t A n c ht kl l h0 h1, hs]; rfl
theorem run_cut_to (t : TypeId) (ht : P.underlying t = some (.slice (P.elem t))) (size : Nat) (hs : ∀ w, (sizeOf (P.elem t)).run P w = .ok size w) (A : Option Addr) (n c : Nat) (kh : IntKind) (h : Int) (h0 : 0 ≤ h) (h2 : h ≤ c) (w : World) :
    (Instr.slice t (.slice A n c) none (some (.int kh h)) none).run P w = .ok (.slice (cutA A c 0 size) (h.toNat - 0) (c - 0)) w := by
  rw [run_slice_h w t A n c ht kh h h0 h2, hs]; rfl
/-- append onto a row of the call's own, the source whatever slice is seen. -/
theorem run_append_sees (w : World) (base : Nat) (t ty e : TypeId) (i : TypeInfo) (z : Value) (size bytes : Nat) (ht : P.underlying t = some (.slice e)) (hi : P.info? e = some i) (hz : i.zero = some z)
    (hsize : i.size = size) (hby : i.bytes = bytes) (hzs : z.cells.size = size) (hsz : 0 < size)
    (v : Value) (n : Nat) (xs : List Value) (hown : w.ownsRow base e size v n xs)
    (B : Nat) (u : Value) (m : Nat) (news : List Value) (hs : Sees w B u size m news) (h1 : ∀ u ∈ news, u.oneCell' = true)
    (h63 : n + m ≤ maxLen) (hbytes : (n + m) * bytes ≤ 140737488355328) (hbase : base ≤ w.heap.size) :
    ∃ v' w', (Builtin.append_ #[t, t] ty #[v, u]).run P w = .ok v' w' ∧ w'.ownsRow base e size v' (n + m) (xs ++ news) ∧ w.grownBy w' v.ownBlock ∧
      (v'.ownBlock = v.ownBlock ∨ v'.ownBlock = some w.heap.size) := by
  have hl := hs.1
  obtain ⟨_, A, c, rfl, hc1, hc2, h3⟩ := hs
  rcases Nat.eq_zero_or_pos m with h0 | h0
  · subst h0
    have hn : news = [] := List.eq_nil_of_length_eq_zero (by simpa using hl)
    subst hn
    rcases A with _ | ad
    · refine ⟨v, w, ?_, by simpa using hown, ⟨rfl, rfl, rfl, Nat.le_refl _, fun _ _ _ => rfl⟩, .inl rfl⟩
      rcases hown.2 with ⟨rfl, rfl⟩ | ⟨g, cap, cur, rfl, _, _, hnc, _⟩
      · simp [Builtin.append_, run_underlying ht, sizeOf, typeInfo, hi, Builtin.lenOf, Builtin.firstCells]
      · simp [Builtin.append_, run_underlying ht, sizeOf, typeInfo, hi, Builtin.lenOf, Builtin.firstCells, hnc, storeCells]
    · obtain ⟨v', w', hrun, h2, h3, _, h5⟩ := run_append_own_at (P := P) w base t ty e i z size bytes ht hi hz hsize hby hzs hsz v n xs hown ad 0 c [] (by simp) (by simp) (by simp) h63 hbytes hbase
      exact ⟨v', w', hrun, h2, h3, h5⟩
  · obtain ⟨b, o, rfl, hb, hc⟩ := h3 h0
    obtain ⟨v', w', hrun, h2, h3, _, h5⟩ := run_append_own_at (P := P) w base t ty e i z size bytes ht hi hz hsize hby hzs hsz v n xs hown ⟨b, o, none⟩ m c news hl (fun j u hu => by rw [add_zero']; exact hc j u hu) h1 h63 hbytes hbase
    exact ⟨v', w', hrun, h2, h3, h5⟩
theorem wp_append_sees {o : Oper} {a : Act} {w : World} {K : Act → World → Prop} {Q : Exit → Act → World → Prop} (s x : Operand) (t : TypeId)
    (ho : o.op = .call { callee := .builtin .append, args := #[s, x], argTypes := #[t, t] })
    (base : Nat) (e : TypeId) (i : TypeInfo) (z : Value) (size bytes : Nat) (ht : P.underlying t = some (.slice e)) (hi : P.info? e = some i) (hz : i.zero = some z)
    (hsize : i.size = size) (hby : i.bytes = bytes) (hzs : z.cells.size = size) (hsz : 0 < size)
    (v : Value) (n : Nat) (xs : List Value) (hs : a.eval s = v) (hown : w.ownsRow base e size v n xs)
    (B : Nat) (u : Value) (m : Nat) (news : List Value) (hx : a.eval x = u) (hr : Sees w B u size m news) (h1 : ∀ u ∈ news, u.oneCell' = true)
    (h63 : n + m ≤ maxLen) (hbytes : (n + m) * bytes ≤ 140737488355328) (hbase : base ≤ w.heap.size)
    (h : ∀ v' w', w'.ownsRow base e size v' (n + m) (xs ++ news) → w.grownBy w' v.ownBlock → (v'.ownBlock = v.ownBlock ∨ v'.ownBlock = some w.heap.size) → K (a.put o.dst v') w') : o.wp P a w K Q := by
  obtain ⟨v', w', hrun, h2, h3, h4⟩ := run_append_sees (P := P) w base t o.type e i z size bytes ht hi hz hsize hby hzs hsz v n xs hown B u m news hr h1 h63 hbytes hbase
  unfold Oper.wp execOp
  simp only [ho, resolve, invoke, builtin, Sem.run_bind, Sem.run_pure, Result.andThen_ok, List.map_toArray, List.map_cons, List.map_nil, hs, hx, hrun]
  exact h v' w' h2 h3 h4
theorem wpList_append_sees {ops : Array Oper} {rest : List Oper} {o : Oper} {a : Act} {w : World} {Q : Exit → Act → World → Prop} (hgd : Region.wanted o (yielded ops a.tmps) = true) (s x : Operand) (t : TypeId)
    (ho : o.op = .call { callee := .builtin .append, args := #[s, x], argTypes := #[t, t] })
    (base : Nat) (e : TypeId) (i : TypeInfo) (z : Value) (size bytes : Nat) (ht : P.underlying t = some (.slice e)) (hi : P.info? e = some i) (hz : i.zero = some z)
    (hsize : i.size = size) (hby : i.bytes = bytes) (hzs : z.cells.size = size) (hsz : 0 < size)
    (v : Value) (n : Nat) (xs : List Value) (hs : a.eval s = v) (hown : w.ownsRow base e size v n xs)
    (B : Nat) (u : Value) (m : Nat) (news : List Value) (hx : a.eval x = u) (hr : Sees w B u size m news) (h1 : ∀ u ∈ news, u.oneCell' = true)
    (h63 : n + m ≤ maxLen) (hbytes : (n + m) * bytes ≤ 140737488355328) (hbase : base ≤ w.heap.size)
    (h : ∀ v' w', w'.ownsRow base e size v' (n + m) (xs ++ news) → w.grownBy w' v.ownBlock → (v'.ownBlock = v.ownBlock ∨ v'.ownBlock = some w.heap.size) → wpList P ops Q rest (a.put o.dst v') w') : wpList P ops Q (o :: rest) a w :=
  BigFrame.wpList_want hgd fun _ hK => wp_append_sees s x t ho base e i z size bytes ht hi hz hsize hby hzs hsz v n xs hs hown B u m news hx hr h1 h63 hbytes hbase fun v' w' h2 h3 h4 => hK _ _ (h v' w' h2 h3 h4)
end
end
section
open Go.RowKit
theorem wp_fresh {P : Program} {code : Code} {Q : Exit → Act → World → Prop} {a : Act} {w : World} {o : Obj} (R : World → Prop) (h1 : R (w.alloc o)) (h2 : ∀ W, R W → Code.wp P code Q a W) : Code.wp P code Q a (w.alloc o) := h2 _ h1
theorem bgo {a b c : World} (h1 : Below a.heap.size a b) (h2 : Below b.heap.size b c) : Below a.heap.size a c := h1.trans (h2.mono h1.size)
theorem balloc (w : World) (o : Obj) : Below w.heap.size w (w.alloc o) := (Below.refl _ _).alloc (Nat.le_refl _) _
theorem bdrew (w : World) : Below w.heap.size w w.drew := (Below.refl _ _).drew
/-- Block g holds exactly these cells. -/
def Box (w : World) (g : Nat) (T : TypeId) (xs : List Value) : Prop := w.heap[g]? = some (.cells xs.toArray T)
theorem Box.new (w : World) (T : TypeId) (xs : List Value) : Box (w.alloc (.cells xs.toArray T)) w.heap.size T xs := heap_alloc_new w _
theorem Box.lt {w : World} {g : Nat} {T : TypeId} {xs : List Value} (h : Box w g T xs) : g < w.heap.size := (Array.getElem?_eq_some_iff.1 h).1
theorem Box.below {w w' : World} {g : Nat} {T : TypeId} {xs : List Value} (h : Box w g T xs) (hb : Below w.heap.size w w') : Box w' g T xs := (hb.block g h.lt).trans h
theorem Box.cell {w : World} {g : Nat} {T : TypeId} {xs : List Value} (h : Box w g T xs) (j : Nat) : w.cell? ⟨g, j, none⟩ = xs[j]? := block_cell h j
theorem Box.set {w : World} {g : Nat} {T : TypeId} {xs : List Value} (h : Box w g T xs) (j : Nat) (v : Value) : Box (w.setCell ⟨g, j, none⟩ v) g T (xs.set j v) := by
  have := set_block w g j v h
  simpa [Box] using this
theorem Box.frozen {w : World} {g : Nat} {T : TypeId} {xs : List Value} (h : Box w g T xs) (j : Nat) : w.frozen? ⟨g, j, none⟩ = false := frozen_of_row w g j _ _ h
/-- The cells of a list of bytes. -/
def vb (l : Bs) : List Value := l.map byV
theorem vb_len (l : Bs) : (vb l).length = l.length := by simp [vb]
theorem vb_get (l : Bs) (j : Nat) : (vb l)[j]? = l[j]?.map byV := by simp [vb]
theorem vb_append (a b : Bs) : vb (a ++ b) = vb a ++ vb b := by simp [vb]
theorem vb_one (l : Bs) : ∀ u ∈ vb l, u.oneCell' = true := by
  intro u hu
  obtain ⟨x, _, rfl⟩ := List.mem_map.1 hu
  rfl
theorem vb_rep (n : Nat) : List.replicate n (Value.int .u8 0) = vb (List.replicate n 0) := by simp [vb, byV]
theorem vb_set (l : Bs) (j : Nat) (x : UInt8) : (vb l).set j (byV x) = vb (l.set j x) := by simp [vb, List.map_set]
theorem byV_nat (n : Nat) : Value.int .u8 ((n : Int) % 256) = byV (UInt8.ofNat n) := by
  unfold byV
  simp
/-- The value shows these bytes. -/
def SeesB (w : World) (B : Nat) (v : Value) (l : Bs) : Prop := Sees w B v 1 l.length (vb l)
/-- The value is a row of the call's own with these bytes. -/
def OwnB (w : World) (base : Nat) (v : Value) (l : Bs) : Prop := w.ownsRow base 5 1 v l.length (vb l)
/-- The call returns these bytes in a row of its own, and changes nothing that was there. -/
def Gives (l : Bs) (w : World) (e : Ending) (w' : World) : Prop := ∃ v, e = .returned v ∧ OwnB w' w.heap.size v l ∧ Below w.heap.size w w'
theorem OwnB.sees {w : World} {base : Nat} {v : Value} {l : Bs} (h : OwnB w base v l) : SeesB w w.heap.size v l := Sees.of_own h
theorem OwnB.below {w w' : World} {base : Nat} {v : Value} {l : Bs} (h : OwnB w base v l) (hb : Below w.heap.size w w') : OwnB w' base v l := own_below h hb
theorem OwnB.mono {w : World} {base base' : Nat} {v : Value} {l : Bs} (h : OwnB w base v l) (hb : base' ≤ base) : OwnB w base' v l := by
  refine ⟨h.1, ?_⟩
  rcases h.2 with h | ⟨g, cap, cur, h1, h2, h3⟩
  · exact .inl h
  · exact .inr ⟨g, cap, cur, h1, by omega, h3⟩
section
variable {w w' : World} {B B' : Nat} {v : Value} {l : Bs}
theorem SeesB.nil (w : World) (B : Nat) : SeesB w B (.slice none 0 0) [] := Sees.nil w B 1
theorem SeesB.mk_ (h : SeesB w B v l) : ∃ A c, v = .slice A l.length c ∧ l.length ≤ c ∧ c ≤ maxLen := Sees.mk_ h
theorem SeesB.at_ {A : Option Addr} {n c : Nat} (h : SeesB w B (.slice A n c) l) (hn : 0 < l.length) : ∃ b o, A = some ⟨b, o, none⟩ ∧ b < B ∧ ∀ j, j < l.length → w.cell? ⟨b, o + j, none⟩ = some (byV (l.getD j 0)) := by
  obtain ⟨_, A', c', hv, h1, h2, h3⟩ := h
  injection hv with e1 e2 e3
  subst e1
  obtain ⟨b, o, e, hb, hc⟩ := h3 hn
  refine ⟨b, o, e, hb, fun j hj => hc j _ ?_⟩
  rw [vb_get, List.getElem?_eq_getElem hj, Option.map_some, List.getD_eq_getElem?_getD, List.getElem?_eq_getElem hj]
  rfl
theorem SeesB.below (h : SeesB w B v l) (hb : Below B w w') : SeesB w' B v l := Sees.below h hb
theorem SeesB.more (h : SeesB w B v l) (hB : B ≤ B') : SeesB w B' v l := Sees.more h hB
theorem SeesB.cut {A : Option Addr} {n c a b : Nat} (h : SeesB w B (.slice A n c) l) (hab : a ≤ b) (hb : b ≤ l.length) :
    SeesB w B (.slice (cutA A c a 1) (b - a) (c - a)) ((l.drop a).take (b - a)) := by
  have hn : n = l.length := by
    obtain ⟨_, A', c', hv, _⟩ := h
    injection hv
  subst hn
  have := Sees.cut (l := a) (h' := b) h hab hb
  rw [Nat.mul_one, Nat.mul_one] at this
  unfold SeesB
  rw [show ((l.drop a).take (b - a)).length = b - a from by rw [List.length_take, List.length_drop]; omega, show vb ((l.drop a).take (b - a)) = ((vb l).drop a).take (b - a) from by simp [vb, List.map_drop, List.map_take]]
  exact this
end
theorem putB_add (m k v : Nat) : putB (m + k) v = putB m (v / 256 ^ k) ++ putB k v := by
  induction k generalizing v with
  | zero => simp [putB]
  | succ k ih => rw [← Nat.add_assoc, putB, ih, putB, List.append_assoc, Nat.div_div_eq_div_mul, Nat.pow_succ, Nat.mul_comm 256]
theorem putB_zero (n : Nat) : putB n 0 = List.replicate n 0 := by
  induction n with
  | zero => rfl
  | succ n ih => rw [putB, ih, List.replicate_succ']; rfl
/-- A list with k bytes of a number at its end. -/
def tailB (n k v : Nat) : Bs := List.replicate (n - k) 0 ++ putB k v
theorem tailB_len (n k v : Nat) (h : k ≤ n) : (tailB n k v).length = n := by simp [tailB, putB_len]; omega
theorem tailB_step (n k v : Nat) (h : k < n) : (tailB n k v).set (n - 1 - k) (UInt8.ofNat (v / 256 ^ k)) = tailB n (k + 1) v := by
  unfold tailB
  obtain ⟨m, rfl⟩ : ∃ m, n = m + 1 + k := ⟨n - 1 - k, by omega⟩
  rw [show m + 1 + k - k = m + 1 from by omega, show m + 1 + k - 1 - k = m from by omega, show m + 1 + k - (k + 1) = m from by omega, Nat.add_comm k 1, putB_add 1 k, List.replicate_succ', List.append_assoc, List.set_append_right _ _ (by simp)]
  simp [putB]
theorem tailB_end (n k v : Nat) (h : k ≤ n) (h0 : k = n ∨ v / 256 ^ k = 0) : tailB n k v = putB n v := by
  unfold tailB
  rcases h0 with rfl | h0
  · simp
  · obtain ⟨m, rfl⟩ : ∃ m, n = m + k := ⟨n - k, by omega⟩
    rw [putB_add, h0, putB_zero, Nat.add_sub_cancel]
/-- A list of bytes as a string. -/
def strB (l : Bs) : ByteArray := ⟨l.toArray⟩
theorem strB_toList (l : Bs) : (strB l).toList = l := by
  rw [ByteArray.toList_eq]; rfl
/-- A string, taken out of a slice that shows these bytes. -/
theorem SeesB.string {w : World} {B : Nat} {A : Option Addr} {n c : Nat} {l : Bs} (h : SeesB w B (.slice A n c) l) :
    (convert 25 9 (.slice A n c)).run Tryz.prog w = .ok (.string (strB l)) w := by
  have hn : n = l.length := by
    obtain ⟨_, A', c', hv, _⟩ := h
    injection hv
  subst hn
  rcases Nat.eq_zero_or_pos l.length with h0 | h0
  · have : l = [] := List.eq_nil_of_length_eq_zero h0
    subst this
    exact Go.Proofs.run_convert_bytes_zero w 25 5 Tryz.underlying25 Tryz.underlying5 A c 9 Tryz.underlying9
  · obtain ⟨b, o, rfl, _, hc⟩ := h.at_ h0
    have := run_convert_bytes_arg (P := Tryz.prog) w 25 5 Tryz.underlying25 Tryz.underlying5 b o l.length c (l.map fun x => (x.toNat : Int)) (by simp) (fun i hi => by
      rw [hc i hi, byV]
      simp [List.getD_eq_getElem?_getD, List.getElem?_eq_getElem hi]) 9 Tryz.underlying9
    rw [this]
    simp [strOfNums, strB, List.map_map, Function.comp_def]
/-- The number in bytes, without an end. -/
def valB (l : Bs) : Nat := l.foldl (fun v x => v * 256 + x.toNat) 0
theorem foldl_val (l : Bs) (v : Nat) : l.foldl (fun v x => v * 256 + x.toNat) v = v * 256 ^ l.length + valB l := by
  unfold valB
  induction l generalizing v with
  | nil => simp
  | cons x l ih =>
    rw [List.foldl_cons, List.foldl_cons, ih, ih (0 * 256 + x.toNat), List.length_cons, Nat.pow_succ, Nat.add_mul, Nat.mul_assoc, Nat.mul_comm 256, Nat.zero_mul, Nat.zero_add, Nat.add_assoc]
theorem foldl_get (l : Bs) (v : Nat) : l.foldl (fun v x => (v * 256 + x.toNat) % 18446744073709551616) v % 18446744073709551616 = (v * 256 ^ l.length + valB l) % 18446744073709551616 := by
  rw [← foldl_val]
  induction l generalizing v with
  | nil => rfl
  | cons x l ih =>
    rw [List.foldl_cons, List.foldl_cons, ih, foldl_val, foldl_val, Nat.add_mod, Nat.mul_mod, Nat.mod_mod, ← Nat.mul_mod, ← Nat.add_mod]
theorem getB_lt (l : Bs) : getB l < 18446744073709551616 := by
  unfold getB
  rcases List.eq_nil_or_concat l with rfl | ⟨l, x, rfl⟩
  · decide
  · rw [List.concat_eq_append, List.foldl_append]; exact Nat.mod_lt _ (by decide)
theorem getB_val (l : Bs) : getB l = valB l % 18446744073709551616 := by
  have := foldl_get l 0
  rw [Nat.zero_mul, Nat.zero_add] at this
  rw [← this]
  exact (Nat.mod_eq_of_lt (getB_lt l)).symm
theorem getB_snoc (l : Bs) (x : UInt8) : getB (l ++ [x]) = (getB l * 256 + x.toNat) % 18446744073709551616 := by simp [getB]
theorem valB_append (a b : Bs) : valB (a ++ b) = valB a * 256 ^ b.length + valB b := by
  rw [← foldl_val]; simp [valB]
/-- Only the last eight bytes count. -/
theorem getB_last (l : Bs) : getB (l.drop (l.length - 8)) = getB l := by
  by_cases h : l.length ≤ 8
  · rw [Nat.sub_eq_zero_of_le h, List.drop_zero]
  · rw [getB_val, getB_val]
    conv => rhs; rw [← List.take_append_drop (l.length - 8) l, valB_append, List.length_drop, show l.length - (l.length - 8) = 8 from by omega]
    rw [show 256 ^ 8 = 18446744073709551616 from by decide, Nat.mul_comm, Nat.mul_add_mod]
/-- One step of Get, as the machine reckons it. -/
theorem get_step (v : Nat) (x : UInt8) : bits .or .u64 ((v : Int) * 256 % 18446744073709551616) (x.toNat : Int) = (((v * 256 + x.toNat) % 18446744073709551616 : Nat) : Int) := by
  have hx := x.toNat_lt
  rw [show (v : Int) * 256 % 18446744073709551616 = ((v * 256 % 18446744073709551616 : Nat) : Int) from by omega, Go.bits_or_u64_nat _ _ (Nat.mod_lt _ (by decide)) (by omega)]
  rw [show v * 256 % 18446744073709551616 = 2 ^ 8 * (v % 72057594037927936) from by omega, ← Nat.two_pow_add_eq_or_of_lt hx]
  omega
theorem get_step' (v : Nat) (x : UInt8) : bits .or .u64 (IntKind.u64.wrap ((v : Int) * 256)) (IntKind.u64.wrap (x.toNat : Int)) = (((v * 256 + x.toNat) % 18446744073709551616 : Nat) : Int) := by
  have hx := x.toNat_lt
  rw [IntKind.wrap_u64, IntKind.wrap_u64, show (x.toNat : Int) % 18446744073709551616 = (x.toNat : Int) from by omega]
  exact get_step v x
end
section
open Go.RowKit
set_option linter.unusedVariables false
attribute [local go_sem ↓] Go.wp_at_zero Go.wp_at_succ
theorem byte_info : (Tryz.prog.info? 5).map (fun i => (i.zero, i.size, i.bytes)) = some (some (.int .u8 0), 1, 1) := by kernel_rfl
theorem make_bytes (n : Nat) (hn : n ≤ 140737488355328) (w : World) : (Instr.makeSlice 25 (.int .i64 (n : Int)) (.int .i64 (n : Int))).run Tryz.prog w = .ok (.slice (some ⟨w.heap.size, 0, none⟩) n n) (w.alloc (.cells (vb (List.replicate n 0)).toArray 5)) := by
  obtain ⟨i, hi, hz, hs, hb⟩ := info_parts byte_info
  have h := run_make (P := Tryz.prog) w 25 5 i (.int .u8 0) Tryz.underlying25 hi hz .i64 .i64 n n (by omega) (by omega) (by rw [hb]; omega) (by omega)
  rw [h, hs]
  simp only [Int.toNat_natCast, Nat.mul_one]
  rw [← vb_rep, ← toList_madeCells_one]
  rfl
theorem own_made (w : World) (l : Bs) (hl : l.length ≤ maxLen) (base : Nat) (hb : base ≤ w.heap.size) : OwnB (w.alloc (.cells (vb l).toArray 5)) base (.slice (some ⟨w.heap.size, 0, none⟩) l.length l.length) l := by
  have h := World.ownsRow_lit (base := base) (e := 5) (size := 1) w (vb l).toArray l.length hb hl (by simp [vb_len])
  exact h
set_option maxRecDepth 100000 in
theorem put_any (v n : Nat) (hn : n ≤ 64) (hv : v < 18446744073709551616) (w : World) :
    Calls Tryz.prog 28 #[.int .u64 (v : Int), .int .i64 (n : Int)] w (Gives (putB n v) w) := by
  have hmk := make_bytes n (by omega)
  have n0 : ¬ ((n : Int) < 0) := by omega
  have n1 : ¬ ((64 : Int) < (n : Int)) := by omega
  go_enter Tryz.func28, Tryz.ntmps28
  go_wp2_with fail
  refine wp_fresh (fun W => OwnB W w.heap.size (.slice (some ⟨w.heap.size, 0, none⟩) n n) (tailB n 0 v) ∧ Below w.heap.size w W) ⟨?_, (Below.refl _ _).alloc (Nat.le_refl _) _⟩ ?_
  · have := own_made w (List.replicate n 0) (by rw [List.length_replicate]; unfold maxLen; omega) w.heap.size (Nat.le_refl _)
    rw [List.length_replicate] at this
    simpa [tailB, putB] using this
  rintro W0 ⟨hW, hbw⟩
  clear hmk
  go_loopw [0, 6] (fun x i wr => ∃ k : Nat, k ≤ n ∧ x = .int .u64 ((v / 256 ^ k : Nat) : Int) ∧ i = .int .i64 ((n : Int) - 1 - k) ∧ OwnB wr w.heap.size (.slice (some ⟨w.heap.size, 0, none⟩) n n) (tailB n k v) ∧ Below w.heap.size w wr) (fun _ i _ => (intOf i + 1).toNat)
  case atStart => exact ⟨0, by omega, by simp, by go_num, hW, hbw⟩
  case round =>
    clear hW hbw
    obtain ⟨k, hk, rfl, rfl, hW, hbw⟩ := hrel
    have hlen := tailB_len n k v hk
    have hstep := tailB_step n k v
    have hend := tailB_end n k v hk
    have hnx : v / 256 ^ (k + 1) = v / 256 ^ k / 256 := by rw [Nat.pow_succ, Nat.div_div_eq_div_mul]
    have hu : v / 256 ^ k < 18446744073709551616 := Nat.lt_of_le_of_lt (Nat.div_le_self _ _) hv
    have HX := Lib.hid hnx
    have HS := Lib.hid hstep
    have HE := Lib.hid hend
    clear hnx hstep hend
    generalize v / 256 ^ k = u at *
    generalize hl : tailB n k v = l at *
    by_cases hk2 : k < n
    · by_cases h0 : u = 0
      · subst h0
        have i0 : (0 : Int) ≤ (n : Int) - 1 - k := by omega
        have he := Lib.hid (HE.out (.inr rfl))
        clear HE
        go_wp2_with fail
        go_ret
        refine ⟨.slice (some ⟨w.heap.size, 0, none⟩) n n, rfl, ?_, hbw⟩
        rw [← he.out]; exact hW
      · obtain ⟨j, hj⟩ : ∃ j : Nat, (n : Int) - 1 - k = (j : Int) := ⟨n - 1 - k, by omega⟩
        have hj2 : n - 1 - k = j := by omega
        rw [hj]
        have i0 : (0 : Int) ≤ (j : Int) := by omega
        have i1 : (j : Int) < (n : Int) := by omega
        have u0 : (0 : Int) < (u : Int) := by omega
        unfold OwnB at hW
        rw [hlen] at hW
        have hc : ∃ z : UInt8, wr.cell? ⟨w.heap.size, j, none⟩ = some (.int .u8 (z.toNat : Int)) := by
          have := hW.cellAt j (by omega)
          rw [vb_get, List.getElem?_eq_getElem (by omega), Option.map_some] at this
          exact ⟨_, this⟩
        obtain ⟨z, hc⟩ := hc
        have HL := Lib.hid hlen
        have HW := Lib.hid hW
        have HJ := Lib.hid hj2
        clear hj hl hlen hW hj2 hu n0 n1 hv h0
        have hf := HW.out.frozenAt j
        go_wp2_with fail
        go_roundw
        case rel =>
          refine ⟨k + 1, by omega, congrArg (Value.int .u64) (by rw [HX.out]; omega), congrArg (Value.int .i64) (by have := HJ.out; omega), ?_, hbw.setCell (Nat.le_refl _) _⟩
          rw [byV_nat, ← HS.out hk2, HJ.out]
          have h := (HW.out.stored j (byV (UInt8.ofNat u))).1
          rw [vb_set] at h
          unfold OwnB
          rw [List.length_set, HL.out]
          exact h
        case measure => simp [intOf]
    · obtain rfl : k = n := by omega
      have i0 : (k : Int) - 1 - k < 0 := by omega
      have he := Lib.hid (HE.out (.inl rfl))
      clear HE
      go_wp2_with fail
      go_ret
      refine ⟨.slice (some ⟨w.heap.size, 0, none⟩) k k, rfl, ?_, hbw⟩
      rw [← he.out]; exact hW
set_option maxRecDepth 100000 in
theorem rput_any (v n : Nat) (hn : n ≤ 64) (hv : v < 18446744073709551616) (w : World) :
    Calls Tryz.prog 29 #[.int .u64 (v : Int), .int .i64 (n : Int)] w (Gives (putB n v) w) := by
  have hmk := make_bytes n (by omega)
  have n0 : ¬ ((n : Int) < 0) := by omega
  have n1 : ¬ ((64 : Int) < (n : Int)) := by omega
  go_enter Tryz.func29, Tryz.ntmps29
  go_wp2_with fail
  refine wp_fresh (fun W => OwnB W w.heap.size (.slice (some ⟨w.heap.size, 0, none⟩) n n) (tailB n 0 v) ∧ Below w.heap.size w W) ⟨?_, (Below.refl _ _).alloc (Nat.le_refl _) _⟩ ?_
  · have := own_made w (List.replicate n 0) (by rw [List.length_replicate]; unfold maxLen; omega) w.heap.size (Nat.le_refl _)
    rw [List.length_replicate] at this
    simpa [tailB, putB] using this
  rintro W0 ⟨hW, hbw⟩
  clear hmk
  go_loopw [0, 6] (fun x i wr => ∃ k : Nat, k ≤ n ∧ x = .int .u64 ((v / 256 ^ k : Nat) : Int) ∧ i = .int .i64 ((n : Int) - 1 - k) ∧ OwnB wr w.heap.size (.slice (some ⟨w.heap.size, 0, none⟩) n n) (tailB n k v) ∧ Below w.heap.size w wr) (fun _ i _ => (intOf i + 1).toNat)
  case atStart => exact ⟨0, by omega, by simp, by go_num, hW, hbw⟩
  case round =>
    clear hW hbw
    obtain ⟨k, hk, rfl, rfl, hW, hbw⟩ := hrel
    have hlen := tailB_len n k v hk
    have hstep := tailB_step n k v
    have hend := tailB_end n k v hk
    have hnx : v / 256 ^ (k + 1) = v / 256 ^ k / 256 := by rw [Nat.pow_succ, Nat.div_div_eq_div_mul]
    have hu : v / 256 ^ k < 18446744073709551616 := Nat.lt_of_le_of_lt (Nat.div_le_self _ _) hv
    have HX := Lib.hid hnx
    have HS := Lib.hid hstep
    have HE := Lib.hid hend
    clear hnx hstep hend
    generalize v / 256 ^ k = u at *
    generalize hl : tailB n k v = l at *
    by_cases hk2 : k < n
    · obtain ⟨j, hj⟩ : ∃ j : Nat, (n : Int) - 1 - k = (j : Int) := ⟨n - 1 - k, by omega⟩
      have hj2 : n - 1 - k = j := by omega
      rw [hj]
      have i0 : (0 : Int) ≤ (j : Int) := by omega
      have i1 : (j : Int) < (n : Int) := by omega
      unfold OwnB at hW
      rw [hlen] at hW
      have hc : ∃ z : UInt8, wr.cell? ⟨w.heap.size, j, none⟩ = some (.int .u8 (z.toNat : Int)) := by
        have := hW.cellAt j (by omega)
        rw [vb_get, List.getElem?_eq_getElem (by omega), Option.map_some] at this
        exact ⟨_, this⟩
      obtain ⟨z, hc⟩ := hc
      have HL := Lib.hid hlen
      have HW := Lib.hid hW
      have HJ := Lib.hid hj2
      clear hj hl hlen hW hj2 hu n0 n1 hv
      have hf := HW.out.frozenAt j
      go_wp2_with fail
      go_roundw
      case rel =>
        refine ⟨k + 1, by omega, congrArg (Value.int .u64) (by rw [HX.out]; omega), congrArg (Value.int .i64) (by have := HJ.out; omega), ?_, hbw.setCell (Nat.le_refl _) _⟩
        rw [byV_nat, ← HS.out hk2, HJ.out]
        have h := (HW.out.stored j (byV (UInt8.ofNat u))).1
        rw [vb_set] at h
        unfold OwnB
        rw [List.length_set, HL.out]
        exact h
      case measure => simp [intOf]
    · obtain rfl : k = n := by omega
      have i0 : (k : Int) - 1 - k < 0 := by omega
      have he := Lib.hid (HE.out (.inl rfl))
      clear HE
      go_wp2_with fail
      go_ret
      refine ⟨.slice (some ⟨w.heap.size, 0, none⟩) k k, rfl, ?_, hbw⟩
      rw [← he.out]; exact hW
set_option maxRecDepth 100000 in
theorem rsame_any (B B' : Nat) (u v : Value) (a b : Bs) (w : World) (hu : SeesB w B u a) (hv : SeesB w B' v b) :
    Calls Tryz.prog 9 #[u, v] w fun e w' => e = .returned (.bool (a == b)) ∧ w' = w := by
  obtain ⟨A, c, rfl, _, _⟩ := hu.mk_
  obtain ⟨A', c', rfl, _, _⟩ := hv.mk_
  have h1 := hu.string
  have h2 := hv.string
  clear hu hv
  go_enter Tryz.func9, Tryz.ntmps9
  go_wp2
  go_ret
  exact ⟨ret_bool (by rw [strB_toList, strB_toList]), rfl⟩
set_option maxRecDepth 100000 in
theorem rget_any (B : Nat) (u : Value) (l : Bs) (w : World) (hu : SeesB w B u l) :
    Calls Tryz.prog 32 #[u] w fun e w' => e = .returned (.int .u64 (getB l : Int)) ∧ w' = w := by
  obtain ⟨A, c, rfl, hc1, hc2⟩ := hu.mk_
  have hm : l.length ≤ 9223372036854775807 := by unfold maxLen at hc2; omega
  go_enter Tryz.func32, Tryz.ntmps32
  go_wp2_with fail
  go_loopw [3, 4] (fun x i wr => ∃ k : Nat, k ≤ l.length ∧ x = .int .u64 (getB (l.take k) : Int) ∧ i = .int .i64 k ∧ wr = w) (fun _ i _ => l.length - (intOf i).toNat)
  case atStart => exact ⟨0, by omega, rfl, rfl, rfl⟩
  case round =>
    obtain ⟨k, hk, rfl, rfl, rfl⟩ := hrel
    have hnext : k < l.length → getB (l.take (k + 1)) = (getB (l.take k) * 256 + (l.getD k 0).toNat) % 18446744073709551616 := fun h => by
      rw [List.take_succ_eq_append_getElem h, getB_snoc, List.getD_eq_getElem?_getD, List.getElem?_eq_getElem h]; rfl
    have hall : ¬ k < l.length → getB (l.take k) = getB l := fun h => by rw [List.take_of_length_le (by omega)]
    have HN := Lib.hid hnext
    have HA := Lib.hid hall
    clear hnext hall
    generalize getB (l.take k) = v at *
    by_cases hlt : k < l.length
    · obtain ⟨b, o, rfl, hb, hcell⟩ := hu.at_ (by omega)
      have x0 := hcell k hlt
      have hst := Lib.hid (get_step' v (l.getD k 0))
      have hn := HN.out hlt
      have HN2 := Lib.hid hn
      clear hn HN
      unfold byV at x0
      generalize l.getD k 0 = x at x0 hst HN2
      clear hcell hu
      have i0 : (0 : Int) ≤ (k : Int) := by omega
      have i1 : (k : Int) < (l.length : Int) := by omega
      go_wp2_with fail
      go_roundw
      case rel => exact ⟨k + 1, by omega, by rw [hst.out, HN2.out], by go_num, trivial⟩
      case measure => simp [intOf]; omega
    · have he := Lib.hid (HA.out hlt)
      go_wp2_with fail
      go_ret
      exact ⟨ret_int (by rw [he.out]), rfl⟩
theorem byte_size (w : World) : (sizeOf 5).run Tryz.prog w = .ok 1 w := by kernel_rfl
set_option maxRecDepth 100000 in
theorem get_any (B : Nat) (u : Value) (l : Bs) (w : World) (hu : SeesB w B u l) :
    Calls Tryz.prog 30 #[u] w fun e w' => e = .returned (.int .u64 (getB l : Int)) ∧ w' = w := by
  obtain ⟨A, c, rfl, hc1, hc2⟩ := hu.mk_
  have hm : l.length ≤ 9223372036854775807 := by unfold maxLen at hc2; omega
  have hcut := SeesB.cut (a := l.length - 8) (b := l.length) hu (by omega) (Nat.le_refl _)
  have hrun := run_cut_from (P := Tryz.prog) 25 Tryz.underlying25 1 byte_size A l.length c .i64 (max 0 ((l.length : Int) - 8)) (by omega) (by omega)
  rw [show (max 0 ((l.length : Int) - 8)).toNat = l.length - 8 from by omega] at hrun
  rw [List.take_of_length_le (by rw [List.length_drop]; omega)] at hcut
  have hd : (l.drop (l.length - 8)).length = l.length - (l.length - 8) := List.length_drop
  have hlast := Lib.hid (getB_last l)
  have hm2 : (l.drop (l.length - 8)).length ≤ 9223372036854775807 := by omega
  generalize cutA A c (l.length - 8) 1 = A2 at *
  generalize c - (l.length - 8) = c2 at *
  generalize l.drop (l.length - 8) = l2 at *
  rw [← hd] at hrun hcut
  clear hd hu
  go_enter Tryz.func30, Tryz.ntmps30
  go_wp2_with fail
  go_loopw [3, 5, 13] (fun x _ i wr => ∃ k : Nat, k ≤ l2.length ∧ x = .int .u64 (getB (l2.take k) : Int) ∧ i = .int .i64 k ∧ wr = w) (fun _ _ i _ => l2.length - (intOf i).toNat)
  case atStart => exact ⟨0, by omega, rfl, rfl, rfl⟩
  case round =>
    obtain ⟨k, hk, rfl, rfl, rfl⟩ := hrel
    have hnext : k < l2.length → getB (l2.take (k + 1)) = (getB (l2.take k) * 256 + (l2.getD k 0).toNat) % 18446744073709551616 := fun h => by
      rw [List.take_succ_eq_append_getElem h, getB_snoc, List.getD_eq_getElem?_getD, List.getElem?_eq_getElem h]; rfl
    have hall : ¬ k < l2.length → getB (l2.take k) = getB l2 := fun h => by rw [List.take_of_length_le (by omega)]
    have HN := Lib.hid hnext
    have HA := Lib.hid hall
    clear hnext hall
    generalize getB (l2.take k) = v at *
    by_cases hlt : k < l2.length
    · obtain ⟨b, o, rfl, hb, hcell⟩ := hcut.at_ (by omega)
      have x0 := hcell k hlt
      have hst := Lib.hid (get_step' v (l2.getD k 0))
      have hn := HN.out hlt
      have HN2 := Lib.hid hn
      clear hn HN hrun
      unfold byV at x0
      generalize l2.getD k 0 = x at x0 hst HN2
      clear hcell hcut
      have i0 : (0 : Int) ≤ (k : Int) := by omega
      have i1 : (k : Int) < (l2.length : Int) := by omega
      go_wp2_with fail
      go_roundw
      case rel => exact ⟨k + 1, by omega, by rw [hst.out, HN2.out], by go_num, trivial⟩
      case measure => simp [intOf]; omega
    · have he := Lib.hid (HA.out hlt)
      go_wp2_with fail
      go_ret
      exact ⟨ret_int (by rw [he.out, hlast.out]), rfl⟩
end
section
open Go.RowKit
set_option linter.unusedVariables false
attribute [local go_sem ↓] Go.wp_at_zero Go.wp_at_succ
theorem zeroCells_size (n : Nat) : (Builtin.zeroCells (Value.int .u8 0).cells n).size = n := by simp [Builtin.zeroCells, Value.cells]
set_option maxRecDepth 100000 in
theorem grow_any (n : Nat) (hn : n ≤ 140737488355328) (w : World) :
    Calls Tryz.prog 48 #[.slice none 0 0, .int .i64 (n : Int)] w (Gives [] w) := by
  obtain ⟨i, hi, hz, hs, hb⟩ := info_parts byte_info
  have n0 : ¬ ((n : Int) < 0) := by omega
  go_enter Tryz.func48, Tryz.ntmps48
  by_cases h0 : n = 0
  · subst h0
    go_wp2_with fail
    go_ret
    exact ⟨_, rfl, World.ownsRow_nil w _ _ _, Below.refl _ _⟩
  · have h1 : (0 : Int) < (n : Int) := by omega
    have hr := Lib.run_append_nil_zeros (P := Tryz.prog) w 25 3 25 5 i (.int .u8 0) .i64 .i64 Tryz.underlying25 Tryz.underlying3 hi hz n (by omega) (by omega) (by omega) (by rw [hb]; omega)
    go_wp2_with (at_builtin; refine Lib.wpList_append_run _ rfl _ _ _ _ rfl _ _ rfl rfl _ _ hr ?_)
    go_ret
    refine ⟨.slice (some ⟨w.heap.size, 0, none⟩) 0 (grownCap w n 0 5), rfl, ?_, ((Below.refl _ _).alloc (Nat.le_refl _) _).drew⟩
    have hg := grownCap_ge w n 0 5
    exact (World.ownsRow_made (base := w.heap.size) (e := 5) (size := 1) w _ (grownCap w n 0 5) (Nat.le_refl _) (grownCap_le_maxLen w n 0 5 (by unfold maxLen; omega)) (by
      have h1 := zeroCells_size n
      have h2 := zeroCells_size (grownCap w n 0 5 - n)
      rw [Array.size_append]
      simp only [Value.cells] at h1 h2 ⊢
      omega)).drew
theorem below_of_grown {w w' : World} {base : Nat} {v : Value} {l : Bs} (h : OwnB w base v l) (hg : w.grownBy w' v.ownBlock) (hb : base ≤ w.heap.size) : Below base w w' := by
  refine ⟨hg.os, hg.tape, hg.output, hg.size, fun k hk => hg.block k (by omega) (fun e => ?_)⟩
  have := (h.lt k e.symm).1
  omega
/-- append of bytes onto a row of the call's own, the source whatever slice is seen. -/
theorem wpList_app {ops : Array Oper} {rest : List Oper} {o : Oper} {a : Act} {w : World} {Q : Exit → Act → World → Prop} (hgd : Region.wanted o (yielded ops a.tmps) = true) (s x : Operand)
    (ho : o.op = .call { callee := .builtin .append, args := #[s, x], argTypes := #[25, 25] })
    (base : Nat) (v : Value) (l : Bs) (hs : a.eval s = v) (hown : OwnB w base v l) (B : Nat) (u : Value) (m : Bs) (hx : a.eval x = u) (hr : SeesB w B u m)
    (hlen : l.length + m.length ≤ 140737488355328) (hbase : base ≤ w.heap.size)
    (h : ∀ v' w', OwnB w' base v' (l ++ m) → Below base w w' → wpList Tryz.prog ops Q rest (a.put o.dst v') w') : wpList Tryz.prog ops Q (o :: rest) a w := by
  obtain ⟨i, hi, hz, hsz, hby⟩ := info_parts byte_info
  refine wpList_append_sees hgd s x 25 ho base 5 i (.int .u8 0) 1 1 Tryz.underlying25 hi hz hsz hby rfl (by omega) v l.length (vb l) hs hown B u m.length (vb m) hx hr (vb_one m) (by unfold maxLen; omega) (by omega) hbase ?_
  intro v' w' h1 h2 h3
  refine h v' w' ?_ (below_of_grown hown h2 hbase)
  unfold OwnB
  rw [vb_append, List.length_append]
  exact h1
/-- The value shows these lists of bytes. -/
def SeesL (w : World) (B : Nat) (u : Value) (ls : List Bs) : Prop := ∃ vs : List Value, Sees w B u 1 ls.length vs ∧ ∀ k, k < ls.length → ∃ v, vs[k]? = some v ∧ SeesB w B v (ls.getD k [])
theorem SeesL.mk_ {w : World} {B : Nat} {u : Value} {ls : List Bs} (h : SeesL w B u ls) : ∃ A c, u = .slice A ls.length c ∧ ls.length ≤ c ∧ c ≤ maxLen := by
  obtain ⟨vs, h, _⟩ := h
  exact h.mk_
theorem SeesL.at_ {w : World} {B : Nat} {A : Option Addr} {n c : Nat} {ls : List Bs} (h : SeesL w B (.slice A n c) ls) (hn : 0 < ls.length) :
    ∃ b o, A = some ⟨b, o, none⟩ ∧ b < B ∧ ∀ k, k < ls.length → ∃ A' c', w.cell? ⟨b, o + k, none⟩ = some (.slice A' (ls.getD k []).length c') ∧ (ls.getD k []).length ≤ c' ∧ c' ≤ maxLen ∧ SeesB w B (.slice A' (ls.getD k []).length c') (ls.getD k []) := by
  obtain ⟨vs, hs, hv⟩ := h
  have hs' := hs
  obtain ⟨_, A', c', e, h1, h2, h3⟩ := hs
  injection e with e1 e2 e3
  subst e1 e2 e3
  obtain ⟨b, o, e, hb, hc⟩ := h3 hn
  refine ⟨b, o, e, hb, fun k hk => ?_⟩
  obtain ⟨v, hv1, hv2⟩ := hv k hk
  obtain ⟨A2, c2, rfl, g1, g2⟩ := hv2.mk_
  exact ⟨A2, c2, hc k _ hv1, g1, g2, hv2⟩
theorem SeesL.below {w w' : World} {B : Nat} {u : Value} {ls : List Bs} (h : SeesL w B u ls) (hb : Below B w w') : SeesL w' B u ls := by
  obtain ⟨vs, hs, hv⟩ := h
  exact ⟨vs, hs.below hb, fun k hk => by obtain ⟨v, h1, h2⟩ := hv k hk; exact ⟨v, h1, h2.below hb⟩⟩
/-- The length of the first k lists. -/
def sumL (ls : List Bs) (k : Nat) : Nat := (ls.take k).flatten.length
theorem flat_step (ls : List Bs) (k : Nat) (h : k < ls.length) : (ls.take (k + 1)).flatten = (ls.take k).flatten ++ ls.getD k [] := by
  rw [List.take_succ_eq_append_getElem h, List.flatten_append, List.getD_eq_getElem?_getD, List.getElem?_eq_getElem h]
  simp
theorem flat_le (ls : List Bs) (k : Nat) : (ls.take k).flatten.length ≤ ls.flatten.length := by
  conv => rhs; rw [← List.take_append_drop k ls, List.flatten_append, List.length_append]
  omega
set_option maxRecDepth 100000 in
theorem rjoin_any (B : Nat) (u : Value) (ls : List Bs) (w : World) (hu : SeesL w B u ls) (hB : B ≤ w.heap.size) (hlen : ls.flatten.length ≤ 1099511627776) :
    Calls Tryz.prog 21 #[u] w (Gives ls.flatten w) := by
  obtain ⟨A, c, rfl, hc1, hc2⟩ := hu.mk_
  have hm : ls.length ≤ 9223372036854775807 := by unfold maxLen at hc2; omega
  obtain ⟨i, hi, hz, hs, hby⟩ := info_parts byte_info
  go_enter Tryz.func21, Tryz.ntmps21
  go_wp2_with fail
  refine wp_fresh (fun W => OwnB W w.heap.size (.slice (some ⟨w.heap.size, 0, none⟩) 0 0) [] ∧ Below w.heap.size w W) ⟨own_made w [] (Nat.zero_le _) _ (Nat.le_refl _), (Below.refl _ _).alloc (Nat.le_refl _) _⟩ ?_
  rintro W0 ⟨hW, hbw⟩
  go_loopw [3, 4] (fun r t wr => ∃ k : Nat, k ≤ ls.length ∧ t = .int .i64 k ∧ OwnB wr w.heap.size r (ls.take k).flatten ∧ Below w.heap.size w wr) (fun _ t _ => ls.length - (intOf t).toNat)
  case atStart => exact ⟨0, by omega, rfl, hW, hbw⟩
  case round =>
    clear hW hbw
    obtain ⟨k, hk, rfl, hW, hbw⟩ := hrel
    have hW := Lib.hid hW
    have hbw := Lib.hid hbw
    by_cases hlt : k < ls.length
    · obtain ⟨b, o, rfl, hb, hcell⟩ := hu.at_ (by omega)
      obtain ⟨A', c', hc, g1, g2, hsee⟩ := hcell k hlt
      have x0 := (hbw.out.cell (p := ⟨b, o + k, none⟩) (by dsimp only; omega)).trans hc
      have hsee2 := Lib.hid (hsee.below (hbw.out.mono hB))
      have hst := Lib.hid (flat_step ls k hlt)
      have hle := flat_le ls (k + 1)
      rw [hst.out, List.length_append] at hle
      generalize ls.getD k [] = m at *
      clear hc hcell hu hsee
      have i0 : (0 : Int) ≤ (k : Int) := by omega
      have i1 : (k : Int) < (ls.length : Int) := by omega
      go_wp2_with (at_builtin; refine wpList_app (by rfl) _ _ rfl w.heap.size _ _ rfl hW.out B _ m rfl hsee2.out (by omega) hbw.out.size ?_)
      intro v' w' hW2 hb2
      have hW2 := Lib.hid hW2
      have hb2 := Lib.hid hb2
      go_wp2_with fail
      go_roundw
      case rel => exact ⟨k + 1, by omega, by go_num, by rw [hst.out]; exact hW2.out, hbw.out.trans hb2.out⟩
      case measure => simp [intOf]; omega
    · have he : (ls.take k).flatten = ls.flatten := by rw [List.take_of_length_le (by omega)]
      rw [he] at hW
      go_wp2_with fail
      go_ret
      exact ⟨_, rfl, hW.out, hbw.out⟩
theorem sum_step (ls : List Bs) (k : Nat) (h : k < ls.length) : sumL ls (k + 1) = sumL ls k + (ls.getD k []).length := by
  unfold sumL; rw [flat_step ls k h, List.length_append]
set_option maxRecDepth 100000 in
theorem concat_any (B : Nat) (u : Value) (ls : List Bs) (w : World) (hu : SeesL w B u ls) (hB : B ≤ w.heap.size) (hlen : ls.flatten.length ≤ 1099511627776) :
    Calls Tryz.prog 36 #[u] w (Gives ls.flatten w) := by
  obtain ⟨A, c, rfl, hc1, hc2⟩ := hu.mk_
  have hm : ls.length ≤ 9223372036854775807 := by unfold maxLen at hc2; omega
  go_enter Tryz.func36, Tryz.ntmps36
  go_wp2_with fail
  go_loopw [3, 5, 11] (fun s _ t wr => ∃ k : Nat, k ≤ ls.length ∧ s = .int .i64 (sumL ls k : Int) ∧ t = .int .i64 k ∧ wr = w) (fun _ _ t _ => ls.length - (intOf t).toNat)
  case atStart => exact ⟨0, by omega, rfl, rfl, rfl⟩
  case round =>
    obtain ⟨k, hk, rfl, rfl, rfl⟩ := hrel
    by_cases hlt : k < ls.length
    · obtain ⟨b, o, rfl, hb, hcell⟩ := hu.at_ (by omega)
      obtain ⟨A', c', hc, g1, g2, hsee⟩ := hcell k hlt
      have hst := Lib.hid (sum_step ls k hlt)
      have hle := flat_le ls (k + 1)
      have hd : (ls.take (k + 1)).flatten.length = sumL ls (k + 1) := rfl
      rw [hd, hst.out] at hle
      generalize sumL ls k = s at *
      generalize ls.getD k [] = m at *
      clear hcell hu hsee hd
      have i0 : (0 : Int) ≤ (k : Int) := by omega
      have i1 : (k : Int) < (ls.length : Int) := by omega
      have i2 : ¬ ((s : Int) + (m.length : Int) < 0) := by omega
      go_wp2_with fail
      go_roundw
      case rel => exact ⟨k + 1, by omega, by rw [hst.out]; rfl, by go_num, trivial⟩
      case measure => simp [intOf]; omega
    · obtain ⟨s, hs⟩ : ∃ s, sumL ls k = s := ⟨_, rfl⟩
      have hs2 : s ≤ 1099511627776 := by rw [← hs]; exact Nat.le_trans (flat_le ls k) hlen
      rw [hs]
      have hu' := Lib.hid hu
      have hB' := Lib.hid hB
      clear hu hB
      go_wp2_with (go_at_call 48; refine (grow_any s (by omega) _).mono ?_; rintro e w' ⟨v, rfl, hW, hbw⟩)
      have hW := Lib.hid hW
      have hbw := Lib.hid hbw
      rename_i kk _ _
      obtain ⟨w, rfl⟩ : ∃ w0 : World, w0 = wr := ⟨_, rfl⟩
      go_loopw [6, 8, 27] (fun r _ t wr => ∃ k : Nat, k ≤ ls.length ∧ t = .int .i64 k ∧ Hid (OwnB wr w.heap.size r (ls.take k).flatten) ∧ Hid (Below w.heap.size w wr)) (fun _ _ t _ => ls.length - (intOf t).toNat)
      case atStart => exact ⟨0, by omega, rfl, hW, hbw⟩
      case round =>
        clear hW hbw
        obtain ⟨k, hk, rfl, hW, hbw⟩ := hrel
        by_cases hlt : k < ls.length
        · obtain ⟨b, o, rfl, hb, hcell⟩ := hu'.out.at_ (by omega)
          obtain ⟨A', c', hc, g1, g2, hsee⟩ := hcell k hlt
          have hb' : b < w.heap.size := Nat.lt_of_lt_of_le hb hB'.out
          have x0 := (hbw.out.cell (p := ⟨b, o + k, none⟩) hb').trans hc
          have hsee2 := Lib.hid (hsee.below (hbw.out.mono hB'.out))
          have hst := Lib.hid (flat_step ls k hlt)
          have hle := flat_le ls (k + 1)
          rw [hst.out, List.length_append] at hle
          generalize ls.getD k [] = m at *
          clear hc hcell hu' hsee
          have i0 : (0 : Int) ≤ (k : Int) := by omega
          have i1 : (k : Int) < (ls.length : Int) := by omega
          go_wp2_with (at_builtin; refine wpList_app (by rfl) _ _ rfl w.heap.size _ _ rfl hW.out B _ m rfl hsee2.out (by omega) hbw.out.size ?_)
          intro v' w' hW2 hb2
          have hW2 := Lib.hid hW2
          have hb2 := Lib.hid hb2
          go_wp2_with fail
          go_roundw
          case rel => exact ⟨k + 1, by omega, by go_num, by rw [hst.out]; exact hW2.out, hbw.out.trans hb2.out⟩
          case measure => simp [intOf]; omega
        · have he : (ls.take k).flatten = ls.flatten := by rw [List.take_of_length_le (by omega)]
          rw [he] at hW
          go_wp2_with fail
          go_ret
          exact ⟨_, rfl, hW.out, hbw.out⟩
theorem join_any (B : Nat) (u : Value) (ls : List Bs) (w : World) (hu : SeesL w B u ls) (hB : B ≤ w.heap.size) (hlen : ls.flatten.length ≤ 1099511627776) :
    Calls Tryz.prog 27 #[u] w (Gives ls.flatten w) := by
  go_enter Tryz.func27, Tryz.ntmps27
  go_wp2_with (go_at_call 36; refine (concat_any B u ls _ hu hB hlen).mono ?_; rintro e w' ⟨v, rfl, hW, hbw⟩)
  go_ret
  exact ⟨_, rfl, hW, hbw⟩
end
section
open Go.RowKit
set_option linter.unusedVariables false
attribute [local go_sem ↓] Go.wp_at_zero Go.wp_at_succ
theorem SeesB.take {w : World} {B n c m c' : Nat} {A : Option Addr} {l : Bs} (h : SeesB w B (.slice A n c) l) (hm : m ≤ l.length) (hc : m ≤ c') (hx : c' ≤ maxLen) : SeesB w B (.slice A m c') (l.take m) := by
  have hl : (l.take m).length = m := by rw [List.length_take]; omega
  unfold SeesB
  rw [hl]
  refine ⟨by rw [vb_len, hl, Nat.mul_one], A, c', rfl, hc, hx, fun h0 => ?_⟩
  obtain ⟨b, o, e, hb, hcell⟩ := h.at_ (by omega)
  refine ⟨b, o, e, hb, fun j x hj => ?_⟩
  rw [vb_get, List.getElem?_take] at hj
  split at hj
  · obtain ⟨y, hy, rfl⟩ := Option.map_eq_some_iff.1 hj
    rw [hcell j (List.getElem?_eq_some_iff.1 hy).1, List.getD_eq_getElem?_getD, hy]
    rfl
  · cases hj
/-- The value's block, where there is one, is at least base. -/
def From (base : Nat) (v : Value) : Prop := ∀ (a : Addr) (n c : Nat), v = .slice (some a) n c → base ≤ a.block
theorem From.mono {a b : Nat} {v : Value} (h : From b v) (hab : a ≤ b) : From a v := fun x n c e => Nat.le_trans hab (h x n c e)
theorem OwnB.from {w : World} {base : Nat} {v : Value} {l : Bs} (h : OwnB w base v l) : From base v := by
  intro a n c e
  rcases h.2 with ⟨rfl, _⟩ | ⟨g, cap, cur, rfl, hb, _⟩
  · cases e
  · injection e with e1; injection e1 with e1; subst e1; exact hb
theorem From.cut {base n c m d : Nat} {A : Option Addr} (h : From base (.slice A n c)) : From base (.slice A m d) := by
  intro a n' c' e
  injection e with e1
  subst e1
  exact h a n c rfl
/-- The call returns a value that shows these bytes, and changes nothing that was there. -/
def Shows (l : Bs) (w : World) (e : Ending) (w' : World) : Prop := ∃ v, e = .returned v ∧ SeesB w' w'.heap.size v l ∧ Below w.heap.size w w' ∧ From w.heap.size v
theorem Gives.shows {l : Bs} {w w' : World} {e : Ending} (h : Gives l w e w') : Shows l w e w' := by
  obtain ⟨v, h1, h2, h3⟩ := h
  exact ⟨v, h1, h2.sees, h3, h2.from⟩
set_option maxRecDepth 100000 in
theorem clone_any (B : Nat) (u : Value) (bs : Bs) (w : World) (hu : SeesB w B u bs) (hB : B ≤ w.heap.size) (hlen : bs.length ≤ 1099511627776) :
    Calls Tryz.prog 31 #[u] w (Gives bs w) := by
  obtain ⟨A, c, rfl, hc1, hc2⟩ := hu.mk_
  cases A with
  | none =>
    have h0 : bs = [] := by
      rcases Nat.eq_zero_or_pos bs.length with h0 | h0
      · exact List.eq_nil_of_length_eq_zero h0
      · obtain ⟨b, o, e, _⟩ := hu.at_ h0
        cases e
    subst h0
    have hnil : ∀ W, (binOp .eql 25 (.slice none 0 c) (.slice none 0 0)).run Tryz.prog W = .ok (.bool true) W := fun W => Lib.run_eql_slice_nil_nil W _ _ Tryz.underlying25
    go_enter Tryz.func31, Tryz.ntmps31
    go_wp2_with fail
    go_ret
    exact ⟨_, rfl, World.ownsRow_nil _ _ _ _, Below.refl _ _⟩
  | some a =>
    have hnil : ∀ W, (binOp .eql 25 (.slice (some a) bs.length c) (.slice none 0 0)).run Tryz.prog W = .ok (.bool false) W := fun W => Lib.run_eql_slice_some_nil W _ _ _ Tryz.underlying25
    have hl := balloc w (.cells #[] 5)
    have ho := own_made w [] (Nat.zero_le _) w.heap.size (Nat.le_refl _)
    have hs := hu.below (hl.mono hB)
    clear hu
    go_enter Tryz.func31, Tryz.ntmps31
    go_wp2_with (at_builtin; refine wpList_app (by rfl) _ _ rfl w.heap.size _ [] rfl ho B _ bs rfl hs (by simp; omega) hl.size ?_)
    intro v' w' h2 hb2
    go_wp2_with fail
    go_ret
    exact ⟨v', rfl, h2, hl.trans hb2⟩
end
section
open Go.RowKit
set_option linter.unusedVariables false
attribute [local go_sem ↓] Go.wp_at_zero Go.wp_at_succ
/-- Values and lists of bytes, each seen. -/
def SeesAll (w : World) (B : Nat) : List Value → List Bs → Prop
  | [], [] => True
  | v :: vs, l :: ls => SeesB w B v l ∧ SeesAll w B vs ls
  | _, _ => False
theorem SeesAll.at_ {w : World} {B : Nat} : ∀ {vs : List Value} {ls : List Bs}, SeesAll w B vs ls → vs.length = ls.length ∧ ∀ k, k < ls.length → ∃ v, vs[k]? = some v ∧ SeesB w B v (ls.getD k [])
  | [], [], _ => ⟨rfl, fun k hk => absurd hk (by simp)⟩
  | v :: vs, l :: ls, h => by
    obtain ⟨h1, h2⟩ := h.2.at_
    refine ⟨by simp [h1], fun k hk => ?_⟩
    cases k with
    | zero => exact ⟨v, rfl, h.1⟩
    | succ k =>
      obtain ⟨u, hu, hs⟩ := h2 k (by simpa using hk)
      exact ⟨u, by simpa using hu, by simpa using hs⟩
theorem SeesAll.alloc {w : World} {B : Nat} (o : Obj) (hB : B ≤ w.heap.size) : ∀ {vs : List Value} {ls : List Bs}, SeesAll w B vs ls → SeesAll (w.alloc o) B vs ls
  | [], [], _ => trivial
  | v :: vs, l :: ls, h => ⟨Sees.alloc h.1 hB o, h.2.alloc o hB⟩
theorem SeesB.moreA {w : World} {B B' : Nat} (hB : B ≤ B') : ∀ {vs : List Value} {ls : List Bs}, SeesAll w B vs ls → SeesAll w B' vs ls
  | [], [], _ => trivial
  | v :: vs, l :: ls, h => ⟨h.1.more hB, SeesB.moreA hB h.2⟩
/-- A literal of lists. -/
theorem seesL_lit (w : World) (T : TypeId) {vs : List Value} {ls : List Bs} (h : SeesAll w w.heap.size vs ls) (hm : vs.length ≤ maxLen) :
    SeesL (w.alloc (.cells vs.toArray T)) (w.alloc (.cells vs.toArray T)).heap.size (.slice (some ⟨w.heap.size, 0, none⟩) vs.length vs.length) ls := by
  obtain ⟨h1, h2⟩ := h.at_
  have h3 := (SeesB.moreA (B' := (w.alloc (.cells vs.toArray T)).heap.size) (by simp) (h.alloc (.cells vs.toArray T) (Nat.le_refl _))).at_.2
  refine ⟨vs, ⟨by rw [h1, Nat.mul_one], _, _, by rw [h1], by omega, by omega, fun _ => ⟨w.heap.size, 0, rfl, by simp, fun j u hu => ?_⟩⟩, h3⟩
  rw [Nat.zero_add, block_cell (heap_alloc_new w _)]
  exact hu
def u64 (x : Int) : Nat := (x % 18446744073709551616).toNat
end
section
open Go.RowKit
set_option linter.unusedVariables false
section
variable {w w' : World} {B base : Nat} {u v : Value} {l : Bs} {ls : List Bs}
theorem SeesB.stay (h : SeesB w B u l) (hk : l ≠ [] → ∀ k, u.ownBlock = some k → ∀ p : Addr, p.block = k → w'.cell? p = w.cell? p) : SeesB w' B u l := by
  obtain ⟨h0, A, c, hv, h1, h2, h3⟩ := h
  refine ⟨h0, A, c, hv, h1, h2, fun hn => ?_⟩
  obtain ⟨b, o, e, hb, hc⟩ := h3 hn
  refine ⟨b, o, e, hb, fun j x hj => (hk (fun e => by subst e; exact absurd hn (by simp)) b (by rw [hv, e]; rfl) _ rfl).trans (hc j x hj)⟩
theorem SeesB.blk (h : SeesB w B u l) (hl : l ≠ []) : ∀ k, u.ownBlock = some k → k < B := by
  obtain ⟨A, c, rfl, h1, h2⟩ := h.mk_
  obtain ⟨b, o, rfl, hb, -⟩ := h.at_ (List.length_pos_iff.2 hl)
  intro k hk
  cases hk
  exact hb
/-- u shows l, and does not lie where v lies. -/
def Elt (w : World) (v u : Value) (l : Bs) : Prop := SeesB w w.heap.size u l ∧ (l ≠ [] → ∀ k, u.ownBlock = some k → v.ownBlock ≠ some k)
theorem Elt.grown (h : Elt w v u l) (hg : w.grownBy w' v.ownBlock) : SeesB w' w'.heap.size u l := by
  refine SeesB.more ?_ hg.size
  refine h.1.stay fun hl k hk p hp => World.cell?_of_block (hg.block p.block ?_ ?_)
  · rw [hp]; exact h.1.blk hl k hk
  · rw [hp]; exact fun e => h.2 hl k hk e.symm
theorem Elt.below (h : Elt w v u l) (hb : Below w.heap.size w w') : Elt w' v u l := ⟨(h.1.below hb).more hb.size, h.2⟩
theorem Elt.of_old {B : Nat} (h : SeesB w B u l) (hB : B ≤ w.heap.size) (hv : ∀ k, v.ownBlock = some k → B ≤ k) : Elt w v u l :=
  ⟨h.more hB, fun hl k hk e => by have := h.blk hl k hk; have := hv k e; omega⟩
theorem Elt.of_from {n : Nat} (h : SeesB w w.heap.size u l) (hf : From n u) (hv : ∀ k, v.ownBlock = some k → k < n) : Elt w v u l := by
  refine ⟨h, fun hl k hk e => ?_⟩
  obtain ⟨A, c, rfl, -, -⟩ := h.mk_
  cases A with
  | none => cases hk
  | some a =>
    have := hf a _ _ rfl
    have := hv k e
    cases hk
    omega
end
/-- append of bytes in a region that draws its order. -/
theorem step_app {ops : Array Oper} {o : Oper} {a : Act} {w : World} {K : Act → World → Prop} {Q : Exit → Act → World → Prop} {E : Prop} (hgd : o.guard = none) (s x : Operand)
    (ho : o.op = .call { callee := .builtin .append, args := #[s, x], argTypes := #[25, 25] })
    (base : Nat) (v : Value) (l : Bs) (hs : a.eval s = v) (hown : OwnB w base v l) (B : Nat) (u : Value) (m : Bs) (hx : a.eval x = u) (hr : SeesB w B u m)
    (hlen : l.length + m.length ≤ 140737488355328) (hbase : base ≤ w.heap.size)
    (h : ∀ v' w', OwnB w' base v' (l ++ m) → Below base w w' → K (a.put o.dst v') w') : if Region.wanted o (yielded ops a.tmps) = true then Oper.wp Tryz.prog o a w K Q else E := by
  have hw : Region.wanted o (yielded ops a.tmps) = true := by simp [Region.wanted, hgd]
  rw [if_pos hw]
  obtain ⟨i, hi, hz, hsz, hby⟩ := info_parts byte_info
  refine wp_append_sees s x 25 ho base 5 i (.int .u8 0) 1 1 Tryz.underlying25 hi hz hsz hby rfl (by omega) v l.length (vb l) hs hown B u m.length (vb m) hx hr (vb_one m) (by unfold maxLen; omega) (by omega) hbase ?_
  intro v' w' h1 h2 h3
  refine h v' w' ?_ (below_of_grown hown h2 hbase)
  unfold OwnB
  rw [vb_append, List.length_append]
  exact h1
end
section
open Go.RowKit
set_option linter.unusedVariables false
attribute [local go_sem ↓] Go.wp_at_zero Go.wp_at_succ
theorem From.nil (base : Nat) : From base (.slice none 0 0) := by intro a n c e; cases e
end
section
open Go.RowKit
set_option linter.unusedVariables false
attribute [local go_sem ↓] Go.wp_at_zero Go.wp_at_succ
theorem SeesL.cut {w : World} {B : Nat} {A : Option Addr} {n c a b : Nat} {ls : List Bs} (h : SeesL w B (.slice A n c) ls) (hab : a ≤ b) (hb : b ≤ ls.length) :
    SeesL w B (.slice (cutA A c a 1) (b - a) (c - a)) ((ls.drop a).take (b - a)) := by
  obtain ⟨vs, hs, hv⟩ := h
  have hn : n = ls.length := by
    obtain ⟨_, A', c', e, _⟩ := hs
    injection e
  subst hn
  have h1 := Sees.cut (l := a) (h' := b) hs hab hb
  rw [Nat.mul_one, Nat.mul_one] at h1
  have hl : ((ls.drop a).take (b - a)).length = b - a := by rw [List.length_take, List.length_drop]; omega
  refine ⟨(vs.drop a).take (b - a), by rw [hl]; exact h1, fun k hk => ?_⟩
  rw [hl] at hk
  obtain ⟨v, h2, h3⟩ := hv (a + k) (by omega)
  refine ⟨v, by rw [List.getElem?_take, if_pos hk, List.getElem?_drop]; exact h2, ?_⟩
  rw [List.getD_eq_getElem?_getD, List.getElem?_take, if_pos hk, List.getElem?_drop, ← List.getD_eq_getElem?_getD]
  exact h3
end
section
open Go.RowKit
set_option linter.unusedVariables false
attribute [local go_sem ↓] Go.wp_at_zero Go.wp_at_succ
theorem SeesL.more {w : World} {B B' : Nat} {u : Value} {ls : List Bs} (h : SeesL w B u ls) (hB : B ≤ B') : SeesL w B' u ls := by
  obtain ⟨vs, hs, hv⟩ := h
  exact ⟨vs, hs.more hB, fun k hk => by obtain ⟨v, h1, h2⟩ := hv k hk; exact ⟨v, h1, h2.more hB⟩⟩
end
section
open Go.RowKit
set_option linter.unusedVariables false
attribute [local go_sem ↓] Go.wp_at_zero Go.wp_at_succ
set_option maxRecDepth 100000 in
theorem equal_any (B B' : Nat) (u v : Value) (a b : Bs) (w : World) (hu : SeesB w B u a) (hv : SeesB w B' v b) :
    Calls Tryz.prog 19 #[u, v] w fun e w' => e = .returned (.bool (a == b)) ∧ w' = w := by
  obtain ⟨A, c, rfl, _, _⟩ := hu.mk_
  obtain ⟨A', c', rfl, _, _⟩ := hv.mk_
  have h1 := hu.string
  have h2 := hv.string
  clear hu hv
  go_enter Tryz.func19, Tryz.ntmps19
  go_wp2
  go_ret
  exact ⟨ret_bool (by rw [strB_toList, strB_toList]), rfl⟩
def BoolPost (b : Bool) (w : World) (e : Ending) (w' : World) : Prop := e = .returned (.bool b) ∧ Below w.heap.size w w'
end
section
open Go.RowKit
set_option linter.unusedVariables false
attribute [local go_sem ↓] Go.wp_at_zero Go.wp_at_succ
theorem seesB_of {w W : World} {B : Nat} {v : Value} {l : Bs} (h : SeesB w B v l) (hB : B ≤ w.heap.size) (hb : Below w.heap.size w W) : SeesB W W.heap.size v l := (h.below (hb.mono hB)).more (Nat.le_trans hB hb.size)
end
section
open Go.RowKit
set_option linter.unusedVariables false
attribute [local go_sem ↓] Go.wp_at_zero Go.wp_at_succ
theorem Box.other {w : World} {g G j : Nat} {T : TypeId} {v : Value} {xs : List Value} (h : Box w g T xs) (hne : g ≠ G) : Box (w.setCell ⟨G, j, none⟩ v) g T xs := (Below.heap_setCell w ⟨G, j, none⟩ v g hne).trans h
end
section
open Go.RowKit
set_option linter.unusedVariables false
/-- What a cell of a record holds: a plain value, or a slice that shows these bytes. -/
inductive Spec where
  | val (x : Value)
  | byt (l : Bs)
def FitS (w : World) (B : Nat) (u : Value) : Spec → Prop
  | .val x => u = x ∧ x.oneCell' = true
  | .byt l => SeesB w B u l
/-- A slice of n records of 'size' cells each, below block B. -/
def SeesR (w : World) (B : Nat) (v : Value) (size n : Nat) (ss : List Spec) : Prop :=
  ss.length = n * size ∧ ∃ vs : List Value, Sees w B v size n vs ∧ ∀ (k : Nat) (s : Spec), ss[k]? = some s → ∃ u, vs[k]? = some u ∧ FitS w B u s
def EltS (w : World) (v u : Value) : Spec → Prop
  | .val x => u = x ∧ x.oneCell' = true
  | .byt l => Elt w v u l
/-- The value is a row of the call's own; its elements are these records. -/
def OwnR (w : World) (base : Nat) (T : TypeId) (v : Value) (size n : Nat) (ss : List Spec) : Prop :=
  ss.length = n * size ∧ ∃ vs : List Value, w.ownsRow base T size v n vs ∧ ∀ (k : Nat) (s : Spec), ss[k]? = some s → ∃ u, vs[k]? = some u ∧ EltS w v u s
section
variable {w w' : World} {B B' base size n : Nat} {T : TypeId} {u v : Value} {s : Spec} {ss : List Spec}
theorem FitS.one (h : FitS w B u s) : u.oneCell' = true := by
  cases s with
  | val x => obtain ⟨rfl, h⟩ := h; exact h
  | byt l => obtain ⟨A, c, rfl, -, -⟩ := SeesB.mk_ h; rfl
theorem FitS.below (h : FitS w B u s) (hb : Below B w w') : FitS w' B u s := by
  cases s with
  | val x => exact h
  | byt l => exact SeesB.below h hb
theorem FitS.more (h : FitS w B u s) (hB : B ≤ B') : FitS w B' u s := by
  cases s with
  | val x => exact h
  | byt l => exact SeesB.more h hB
theorem EltS.fit (h : EltS w v u s) : FitS w w.heap.size u s := by
  cases s with
  | val x => exact h
  | byt l => exact h.1
theorem EltS.below (h : EltS w v u s) (hb : Below w.heap.size w w') : EltS w' v u s := by
  cases s with
  | val x => exact h
  | byt l => exact Elt.below h hb
theorem EltS.of_old (h : FitS w B u s) (hB : B ≤ w.heap.size) (hv : ∀ k, v.ownBlock = some k → B ≤ k) : EltS w v u s := by
  cases s with
  | val x => exact h
  | byt l => exact Elt.of_old h hB hv
theorem SeesR.mk_ (h : SeesR w B v size n ss) : ∃ A c, v = .slice A n c ∧ n ≤ c ∧ c ≤ maxLen := by
  obtain ⟨_, vs, h, _⟩ := h
  exact h.mk_
theorem SeesR.at_ {A : Option Addr} {c : Nat} (h : SeesR w B (.slice A n c) size n ss) (hn : 0 < n) :
    ∃ b o, A = some ⟨b, o, none⟩ ∧ b < B ∧ ∀ (k : Nat) (s : Spec), ss[k]? = some s → ∃ u, w.cell? ⟨b, o + k, none⟩ = some u ∧ FitS w B u s := by
  obtain ⟨_, vs, hs, hv⟩ := h
  obtain ⟨b, o, e, hb, hc⟩ := hs.at_ hn
  refine ⟨b, o, e, hb, fun k s hk => ?_⟩
  obtain ⟨u, hu1, hu2⟩ := hv k s hk
  exact ⟨u, hc k u hu1, hu2⟩
theorem SeesR.below (h : SeesR w B v size n ss) (hb : Below B w w') : SeesR w' B v size n ss := by
  obtain ⟨h0, vs, hs, hv⟩ := h
  refine ⟨h0, vs, hs.below hb, fun k s hk => ?_⟩
  obtain ⟨u, hu1, hu2⟩ := hv k s hk
  exact ⟨u, hu1, hu2.below hb⟩
theorem SeesR.more (h : SeesR w B v size n ss) (hB : B ≤ B') : SeesR w B' v size n ss := by
  obtain ⟨h0, vs, hs, hv⟩ := h
  refine ⟨h0, vs, hs.more hB, fun k s hk => ?_⟩
  obtain ⟨u, hu1, hu2⟩ := hv k s hk
  exact ⟨u, hu1, hu2.more hB⟩
theorem SeesR.nil (w : World) (B size : Nat) : SeesR w B (.slice none 0 0) size 0 [] := ⟨by simp, [], Sees.nil w B size, fun k s hk => by simp at hk⟩
theorem OwnR.nil (w : World) (base : Nat) (T : TypeId) (size : Nat) : OwnR w base T (.slice none 0 0) size 0 [] := ⟨by simp, [], World.ownsRow_nil w base T size, fun k s hk => by simp at hk⟩
theorem OwnR.sees (h : OwnR w base T v size n ss) : SeesR w w.heap.size v size n ss := by
  obtain ⟨h0, vs, h1, h2⟩ := h
  refine ⟨h0, vs, Sees.of_own h1, fun k s hk => ?_⟩
  obtain ⟨u, g1, g2⟩ := h2 k s hk
  exact ⟨u, g1, g2.fit⟩
theorem OwnR.lt (h : OwnR w base T v size n ss) : ∀ k, v.ownBlock = some k → base ≤ k ∧ k < w.heap.size := by
  obtain ⟨_, vs, h1, _⟩ := h
  exact h1.lt
theorem OwnR.below (h : OwnR w base T v size n ss) (hb : Below w.heap.size w w') : OwnR w' base T v size n ss := by
  obtain ⟨h0, vs, h1, h2⟩ := h
  refine ⟨h0, vs, own_below h1 hb, fun k s hk => ?_⟩
  obtain ⟨u, g1, g2⟩ := h2 k s hk
  exact ⟨u, g1, g2.below hb⟩
theorem OwnR.mono {base' : Nat} (h : OwnR w base T v size n ss) (hb : base' ≤ base) : OwnR w base' T v size n ss := by
  obtain ⟨h0, vs, h1, h2⟩ := h
  refine ⟨h0, vs, ⟨h1.1, ?_⟩, h2⟩
  rcases h1.2 with h | ⟨g, cap, cur, e1, e2, e3⟩
  · exact .inl h
  · exact .inr ⟨g, cap, cur, e1, by omega, e3⟩
theorem OwnR.from (h : OwnR w base T v size n ss) : From base v := by
  obtain ⟨_, vs, h1, _⟩ := h
  intro a n' c e
  rcases h1.2 with ⟨rfl, _⟩ | ⟨g, cap, cur, rfl, hb, _⟩
  · cases e
  · injection e with e1; injection e1 with e1; subst e1; exact hb
end
theorem below_ownR {w w' : World} {base size n : Nat} {T : TypeId} {v : Value} {ss : List Spec} (h : OwnR w base T v size n ss) (hg : w.grownBy w' v.ownBlock) (hb : base ≤ w.heap.size) : Below base w w' := by
  refine ⟨hg.os, hg.tape, hg.output, hg.size, fun k hk => hg.block k (by omega) (fun e => ?_)⟩
  have := (h.lt k e.symm).1
  omega
/-- append of records, the source whatever row is seen that does not lie where the target lies. -/
theorem wp_appR {o : Oper} {a : Act} {w : World} {K : Act → World → Prop} {Q : Exit → Act → World → Prop} (s x : Operand) (T E : TypeId) (hT : Tryz.prog.underlying T = some (.slice E))
    (ho : o.op = .call { callee := .builtin .append, args := #[s, x], argTypes := #[T, T] }) (i : TypeInfo) (z : Value) (size bytes : Nat) (hi : Tryz.prog.info? E = some i) (hz : i.zero = some z)
    (hsz : i.size = size) (hby : i.bytes = bytes) (hzs : z.cells.size = size) (h0 : 0 < size) (hby2 : bytes ≤ 1024)
    (base : Nat) (v : Value) (n : Nat) (ss : List Spec) (hs : a.eval s = v) (hown : OwnR w base E v size n ss) (B : Nat) (u : Value) (m : Nat) (vs : List Value) (ts : List Spec) (hx : a.eval x = u) (hr : Sees w B u size m vs)
    (htl : ts.length = m * size) (hel : ∀ (k : Nat) (t : Spec), ts[k]? = some t → ∃ y, vs[k]? = some y ∧ EltS w v y t)
    (hlen : n + m ≤ 1048576) (hbase : base ≤ w.heap.size)
    (h : ∀ v' w', OwnR w' base E v' size (n + m) (ss ++ ts) → Below base w w' → K (a.put o.dst v') w') : o.wp Tryz.prog a w K Q := by
  have hown' := hown
  obtain ⟨hl0, xs, h1, h2⟩ := hown
  have h1c : ∀ y ∈ vs, y.oneCell' = true := by
    intro y hy
    obtain ⟨k, hk⟩ := List.mem_iff_getElem?.1 hy
    have hkl : k < ts.length := by
      have := (List.getElem?_eq_some_iff.1 hk).1
      rw [hr.1] at this; omega
    obtain ⟨y', e1, e2⟩ := hel k _ (List.getElem?_eq_getElem hkl)
    rw [hk] at e1
    cases e1
    exact e2.fit.one
  refine wp_append_sees s x T ho base E i z size bytes hT hi hz hsz hby hzs h0 v n xs hs h1 B u m vs hx hr h1c (by unfold maxLen; omega) (Nat.le_trans (Nat.mul_le_mul hlen hby2) (by omega)) hbase ?_
  intro v' w' g1 g2 g3
  refine h v' w' ⟨by rw [List.length_append, hl0, htl, Nat.add_mul], xs ++ vs, g1, fun k t hk => ?_⟩ (below_ownR hown' g2 hbase)
  have hl1 : xs.length = ss.length := by rw [h1.1, hl0]
  have hst : ∀ {y : Value} {t : Spec}, EltS w v y t → EltS w' v' y t := fun {y t} hy => by
    cases t with
    | val x => exact hy
    | byt l => exact ⟨hy.grown g2, fun hm k hk => by
        rcases g3 with e | e
        · rw [e]; exact hy.2 hm k hk
        · rw [e]; intro e2; cases e2; exact absurd (hy.1.blk hm _ hk) (by omega)⟩
  by_cases hkl : k < ss.length
  · rw [List.getElem?_append_left hkl] at hk
    obtain ⟨y, e1, e2⟩ := h2 k t hk
    exact ⟨y, by rw [List.getElem?_append_left (by omega)]; exact e1, hst e2⟩
  · rw [List.getElem?_append_right (by omega)] at hk
    obtain ⟨y, e1, e2⟩ := hel (k - ss.length) t hk
    exact ⟨y, by rw [List.getElem?_append_right (by omega), hl1]; exact e1, hst e2⟩
theorem wpList_appR {ops : Array Oper} {rest : List Oper} {o : Oper} {a : Act} {w : World} {Q : Exit → Act → World → Prop} (hgd : Region.wanted o (yielded ops a.tmps) = true) (s x : Operand) (T E : TypeId) (hT : Tryz.prog.underlying T = some (.slice E))
    (ho : o.op = .call { callee := .builtin .append, args := #[s, x], argTypes := #[T, T] }) (i : TypeInfo) (z : Value) (size bytes : Nat) (hi : Tryz.prog.info? E = some i) (hz : i.zero = some z)
    (hsz : i.size = size) (hby : i.bytes = bytes) (hzs : z.cells.size = size) (h0 : 0 < size) (hby2 : bytes ≤ 1024)
    (base : Nat) (v : Value) (n : Nat) (ss : List Spec) (hs : a.eval s = v) (hown : OwnR w base E v size n ss) (B : Nat) (u : Value) (m : Nat) (vs : List Value) (ts : List Spec) (hx : a.eval x = u) (hr : Sees w B u size m vs)
    (htl : ts.length = m * size) (hel : ∀ (k : Nat) (t : Spec), ts[k]? = some t → ∃ y, vs[k]? = some y ∧ EltS w v y t)
    (hlen : n + m ≤ 1048576) (hbase : base ≤ w.heap.size)
    (h : ∀ v' w', OwnR w' base E v' size (n + m) (ss ++ ts) → Below base w w' → wpList Tryz.prog ops Q rest (a.put o.dst v') w') : wpList Tryz.prog ops Q (o :: rest) a w :=
  BigFrame.wpList_want hgd fun _ hK => wp_appR s x T E hT ho i z size bytes hi hz hsz hby hzs h0 hby2 base v n ss hs hown B u m vs ts hx hr htl hel hlen hbase fun v' w' h2 h3 => hK _ _ (h v' w' h2 h3)
/-- The same in a region that draws its order. -/
theorem step_appR {ops : Array Oper} {o : Oper} {a : Act} {w : World} {K : Act → World → Prop} {Q : Exit → Act → World → Prop} {X : Prop} (hgd : o.guard = none) (s x : Operand) (T E : TypeId) (hT : Tryz.prog.underlying T = some (.slice E))
    (ho : o.op = .call { callee := .builtin .append, args := #[s, x], argTypes := #[T, T] }) (i : TypeInfo) (z : Value) (size bytes : Nat) (hi : Tryz.prog.info? E = some i) (hz : i.zero = some z)
    (hsz : i.size = size) (hby : i.bytes = bytes) (hzs : z.cells.size = size) (h0 : 0 < size) (hby2 : bytes ≤ 1024)
    (base : Nat) (v : Value) (n : Nat) (ss : List Spec) (hs : a.eval s = v) (hown : OwnR w base E v size n ss) (B : Nat) (u : Value) (m : Nat) (vs : List Value) (ts : List Spec) (hx : a.eval x = u) (hr : Sees w B u size m vs)
    (htl : ts.length = m * size) (hel : ∀ (k : Nat) (t : Spec), ts[k]? = some t → ∃ y, vs[k]? = some y ∧ EltS w v y t)
    (hlen : n + m ≤ 1048576) (hbase : base ≤ w.heap.size)
    (h : ∀ v' w', OwnR w' base E v' size (n + m) (ss ++ ts) → Below base w w' → K (a.put o.dst v') w') : if Region.wanted o (yielded ops a.tmps) = true then Oper.wp Tryz.prog o a w K Q else X := by
  have hw : Region.wanted o (yielded ops a.tmps) = true := by simp [Region.wanted, hgd]
  rw [if_pos hw]
  exact wp_appR s x T E hT ho i z size bytes hi hz hsz hby hzs h0 hby2 base v n ss hs hown B u m vs ts hx hr htl hel hlen hbase h
/-- A literal of one record. -/
theorem rec_lit (W : World) (T : TypeId) (xs : List Value) : Sees (W.alloc (.cells xs.toArray T)) (W.heap.size + 1) (.slice (some ⟨W.heap.size, 0, none⟩) 1 1) xs.length 1 xs :=
  ⟨by omega, _, 1, rfl, Nat.le_refl _, by simp [maxLen], fun _ => ⟨W.heap.size, 0, rfl, by omega, fun j u hj => by have := (Box.new W T xs).cell j; rw [Nat.zero_add, this, hj]⟩⟩
theorem EltS.of_from {w : World} {n : Nat} {u v : Value} {l : Bs} (h : SeesB w w.heap.size u l) (hf : From n u) (hv : ∀ k, v.ownBlock = some k → k < n) : EltS w v u (.byt l) := Elt.of_from h hf hv
end
section
open Go.RowKit
set_option linter.unusedVariables false
attribute [local go_sem ↓] Go.wp_at_zero Go.wp_at_succ
set_option maxRecDepth 100000 in
theorem bclone_any (B : Nat) (u : Value) (bs : Bs) (w : World) (hu : SeesB w B u bs) (hB : B ≤ w.heap.size) (hlen : bs.length ≤ 1099511627776) :
    Calls Tryz.prog 25 #[u] w (Gives bs w) := by
  obtain ⟨A, c, rfl, hc1, hc2⟩ := hu.mk_
  cases A with
  | none =>
    have h0 : bs = [] := by
      rcases Nat.eq_zero_or_pos bs.length with h0 | h0
      · exact List.eq_nil_of_length_eq_zero h0
      · obtain ⟨b, o, e, _⟩ := hu.at_ h0
        cases e
    subst h0
    have hnil : ∀ W, (binOp .eql 25 (.slice none 0 c) (.slice none 0 0)).run Tryz.prog W = .ok (.bool true) W := fun W => Lib.run_eql_slice_nil_nil W _ _ Tryz.underlying25
    go_enter Tryz.func25, Tryz.ntmps25
    go_wp2_with fail
    go_ret
    exact ⟨_, rfl, World.ownsRow_nil _ _ _ _, Below.refl _ _⟩
  | some a =>
    have hnil : ∀ W, (binOp .eql 25 (.slice (some a) bs.length c) (.slice none 0 0)).run Tryz.prog W = .ok (.bool false) W := fun W => Lib.run_eql_slice_some_nil W _ _ _ Tryz.underlying25
    have hl := balloc w (.cells #[] 5)
    have ho := own_made w [] (Nat.zero_le _) w.heap.size (Nat.le_refl _)
    have hs := hu.below (hl.mono hB)
    clear hu
    go_enter Tryz.func25, Tryz.ntmps25
    go_wp2_with (at_builtin; refine wpList_app (by rfl) _ _ rfl w.heap.size _ [] rfl ho B _ bs rfl hs (by simp; omega) hl.size ?_)
    intro v' w' h2 hb2
    go_wp2_with fail
    go_ret
    exact ⟨v', rfl, h2, hl.trans hb2⟩
end
section
open Go.RowKit
set_option linter.unusedVariables false
attribute [local go_sem ↓] Go.wp_at_zero Go.wp_at_succ
set_option maxRecDepth 100000 in
theorem kwithin_any (v m : Int) (hm : 1 ≤ m) (hm2 : m ≤ 4294967296) (w : World) :
    Calls Tryz.prog 6 #[.int .i64 v, .int .i64 m] w fun e w' => e = .returned (.int .i64 (v % m)) ∧ w' = w := by
  have hne : m ≠ 0 := by omega
  have e1 := Int.emod_nonneg v hne
  have e2 := Int.emod_lt_of_pos v (show 0 < m by omega)
  have hlt : -m < v.tmod m ∧ v.tmod m < m := ⟨by have := Int.lt_tmod_of_pos v (show 0 < m by omega); omega, Int.tmod_lt_of_pos v (by omega)⟩
  have ht : v % m = if v.tmod m < 0 then v.tmod m + m else v.tmod m := by
    have := Int.tmod_eq_emod (a := v) (b := m)
    rw [this] at hlt ⊢
    split at hlt <;> split <;> split <;> omega
  rw [ht]
  clear ht e1 e2
  have hm0 : (m == 0) = false := by rw [beq_eq_false_iff_ne]; exact hne
  by_cases hr : v.tmod m < 0
  · go_enter Tryz.func6, Tryz.ntmps6
    go_wp2_with fail
    go_returns
    exact ⟨ret_int (by simp), rfl⟩
  · go_enter Tryz.func6, Tryz.ntmps6
    go_wp2_with fail
    go_returns
    exact ⟨ret_int (by simp), rfl⟩
def xorK (z : UInt8) (b : Int) : UInt8 := UInt8.ofNat (bits .xor .u8 (z.toNat : Int) b).toNat
theorem xorK_eq (z : UInt8) (b : Int) : bits .xor .u8 (z.toNat : Int) b = ((xorK z b).toNat : Int) := by
  have h : 0 ≤ bits .xor .u8 (z.toNat : Int) b ∧ bits .xor .u8 (z.toNat : Int) b < 256 := by
    show 0 ≤ IntKind.u8.wrap _ ∧ IntKind.u8.wrap _ < 256
    rw [IntKind.wrap_u8]
    omega
  unfold xorK
  generalize bits .xor .u8 (z.toNat : Int) b = x at *
  simp
  omega
def flipK (l : Bs) (a b : Int) : Bs := l.set (a % (l.length : Int)).toNat (xorK (l.getD (a % (l.length : Int)).toNat 0) (1 + b % 255))
theorem flipK_len (l : Bs) (a b : Int) : (flipK l a b).length = l.length := by simp [flipK]
theorem kmod_nat (v m : Int) (hm : 0 < m) : ∃ k : Nat, v % m = (k : Int) ∧ (k : Int) < m := by
  have h1 := Int.emod_nonneg v (show m ≠ 0 by omega)
  have h2 := Int.emod_lt_of_pos v hm
  exact ⟨(v % m).toNat, by omega, by omega⟩
set_option maxRecDepth 100000 in
set_option maxHeartbeats 2000000 in
theorem kflip_some (B : Nat) (u : Value) (l : Bs) (a b : Int) (w : World) (hu : SeesB w B u l) (hB : B ≤ w.heap.size) (h1 : 1 ≤ l.length) (h2 : l.length ≤ 1048576) :
    Calls Tryz.prog 12 #[u, .int .i64 a, .int .i64 b] w (Gives (flipK l a b) w) := by
  obtain ⟨A, c, rfl, -, -⟩ := hu.mk_
  obtain ⟨i, hi, hi2⟩ := kmod_nat a (l.length : Int) (by omega)
  obtain ⟨q, hq, hq2⟩ := kmod_nat b 255 (by omega)
  have hi3 : i < l.length := by omega
  have hch : Hid (flipK l a b = l.set i (xorK (l.getD i 0) (1 + (q : Int)))) := by show _ = _; rw [flipK, hi, hq, Int.toNat_natCast]
  have qa := fun W => kwithin_any a (l.length : Int) (by omega) (by omega) W
  have qb := fun W => kwithin_any b 255 (by omega) (by omega) W
  rw [hi] at qa
  rw [hq] at qb
  replace qa := Lib.hid qa
  replace qb := Lib.hid qb
  have hbA := balloc w (.cells #[.slice A l.length c] 25)
  have hl3 := seesL_lit w 25 (show SeesAll w w.heap.size [.slice A l.length c] [l] from ⟨hu.more hB, trivial⟩) (by simp [maxLen])
  have hfl : [l].flatten = l := by simp
  have hj := rjoin_any _ _ _ _ hl3 (Nat.le_refl _) (by rw [hfl]; omega)
  rw [hfl] at hj
  replace hj := Lib.hid hj
  have ipos : (0 : Int) < (l.length : Int) := by omega
  have hx2 : IntKind.i64.wrap (1 + (q : Int)) = 1 + (q : Int) := by rw [IntKind.wrap_i64]; omega
  have hx : IntKind.u8.wrap (1 + (q : Int)) = 1 + (q : Int) := by rw [IntKind.wrap_u8]; omega
  replace hi := Lib.hid hi
  replace hq := Lib.hid hq
  go_enter Tryz.func12, Tryz.ntmps12
  go_wp2_with fail
  refine hj.out.mono ?_
  rintro e w1 ⟨v1, rfl, h3, hb1⟩
  rcases h3.2 with ⟨rfl, h0⟩ | ⟨g, cap, cur, rfl, hb, hh, hc, hm, hcur, htake⟩
  · exact absurd h0 (by omega)
  have hcell := h3.cellAt i (by omega)
  rw [vb_get, List.getElem?_eq_getElem hi3, Option.map_some] at hcell
  have hgd : l.getD i 0 = l[i] := by rw [List.getD_eq_getElem?_getD, List.getElem?_eq_getElem hi3]; rfl
  rw [hgd] at hch
  generalize l[i] = z at *
  have hz := xorK_eq z (1 + (q : Int))
  generalize xorK z (1 + (q : Int)) = y at *
  replace hcell : w1.cell? ⟨g, i, none⟩ = some (.int .u8 (z.toNat : Int)) := hcell
  have hf := h3.frozenAt i
  have hst := (h3.stored i (byV y)).1
  rw [vb_set] at hst
  replace hst := Lib.hid hst
  replace hgd := Lib.hid hgd
  replace h3 := Lib.hid h3
  clear hh hc hm hcur htake
  dsimp only
  go_wp2_with fail
  go_region_with
    (first
      | (go_at_call 6; have _h := mk1; refine (qb.out _).mono ?_; rintro e w5 ⟨rfl, rfl⟩)
      | (go_at_call 6; refine (qa.out _).mono ?_; rintro e w5 ⟨rfl, rfl⟩; have mk1 : True := trivial))
  all_goals
    go_wp2_with fail
    go_ret
    refine ⟨.slice (some ⟨g, 0, none⟩) l.length cap, rfl, ?_, (Below.setCell (bgo (balloc w _) hb1) (p := ⟨g, i, none⟩) (Nat.le_trans (balloc w _).size hb) _).drew⟩
    rw [hch.out]
    refine OwnB.mono (base := (w.alloc (.cells #[.slice A l.length c] 25)).heap.size) ?_ (balloc w _).size
    unfold OwnB
    rw [List.length_set]
    exact hst.out
end
section
open Go Go.RowKit
set_option linter.unusedVariables false
set_option linter.unusedSimpArgs false
attribute [local go_sem ↓] Go.wp_at_zero Go.wp_at_succ
theorem box3_cells {W : World} {g : Nat} {T : TypeId} {a b c : Value} (h : Box W g T [a, b, c]) : W.cell? ⟨g, 0, none⟩ = some a ∧ W.cell? ⟨g, 1, none⟩ = some b ∧ W.cell? ⟨g, 2, none⟩ = some c ∧ W.frozen? ⟨g, 0, none⟩ = false ∧ W.frozen? ⟨g, 1, none⟩ = false ∧ W.frozen? ⟨g, 2, none⟩ = false := ⟨h.cell 0, h.cell 1, h.cell 2, h.frozen 0, h.frozen 1, h.frozen 2⟩
end
section
open Go Go.RowKit
set_option linter.unusedVariables false
set_option linter.unusedSimpArgs false
attribute [local go_sem ↓] Go.wp_at_zero Go.wp_at_succ
set_option maxRecDepth 100000 in
set_option maxHeartbeats 1000000 in
theorem kflip_none (u : Value) (a b : Int) (w : World) (hu : SeesB w w.heap.size u []) :
    Calls Tryz.prog 12 #[u, .int .i64 a, .int .i64 b] w (Gives [] w) := by
  obtain ⟨A, c, rfl, -, -⟩ := hu.mk_
  have hl3 := seesL_lit w 25 (show SeesAll w w.heap.size [.slice A (List.length ([] : Bs)) c] [[]] from ⟨hu, trivial⟩) (by simp [maxLen])
  have hj := rjoin_any _ _ _ _ hl3 (Nat.le_refl _) (by simp)
  rw [show ([[]] : List Bs).flatten = [] from rfl] at hj
  have hal := Lib.hid (balloc w (.cells #[.slice A (List.length ([] : Bs)) c] 25))
  replace hj := Lib.hid hj
  clear hu hl3
  go_enter Tryz.func12, Tryz.ntmps12
  go_wp2_with fail
  refine hj.out.mono ?_
  rintro e w1 ⟨v1, rfl, f1, hb1⟩
  obtain ⟨A1, c1, rfl, -, -⟩ := f1.sees.mk_
  dsimp only
  go_wp2_with fail
  go_ret
  exact ⟨_, rfl, f1.mono hal.out.size, bgo hal.out hb1⟩
theorem kflip_any (u : Value) (l : Bs) (a b : Int) (w : World) (hu : SeesB w w.heap.size u l) (hl : l.length ≤ 1048576) :
    Calls Tryz.prog 12 #[u, .int .i64 a, .int .i64 b] w fun e w' => ∃ l' : Bs, l'.length = l.length ∧ Gives l' w e w' := by
  cases l with
  | nil => exact (kflip_none u a b w hu).mono fun _ _ h => ⟨[], rfl, h⟩
  | cons x y => exact (kflip_some _ u (x :: y) a b w hu (Nat.le_refl _) (by simp) hl).mono fun _ _ h => ⟨_, flipK_len _ _ _, h⟩
end
section
open Go Go.RowKit
set_option linter.unusedVariables false
/-- append of records, the source whatever row is seen that does not lie where the target lies. -/
theorem wp_appRG {o : Oper} {a : Act} {w : World} {K : Act → World → Prop} {Q : Exit → Act → World → Prop} (s x : Operand) (T E : TypeId) (hT : Tryz.prog.underlying T = some (.slice E))
    (ho : o.op = .call { callee := .builtin .append, args := #[s, x], argTypes := #[T, T] }) (i : TypeInfo) (z : Value) (size bytes : Nat) (hi : Tryz.prog.info? E = some i) (hz : i.zero = some z)
    (hsz : i.size = size) (hby : i.bytes = bytes) (hzs : z.cells.size = size) (h0 : 0 < size) (hby2 : bytes ≤ 1024)
    (base : Nat) (v : Value) (n : Nat) (ss : List Spec) (hs : a.eval s = v) (hown : OwnR w base E v size n ss) (B : Nat) (u : Value) (m : Nat) (vs : List Value) (ts : List Spec) (hx : a.eval x = u) (hr : Sees w B u size m vs)
    (htl : ts.length = m * size) (hel : ∀ (k : Nat) (t : Spec), ts[k]? = some t → ∃ y, vs[k]? = some y ∧ EltS w v y t)
    (hlen : n + m ≤ 1048576) (hbase : base ≤ w.heap.size)
    (h : ∀ v' w', OwnR w' base E v' size (n + m) (ss ++ ts) → Below base w w' → w.grownBy w' v.ownBlock → K (a.put o.dst v') w') : o.wp Tryz.prog a w K Q := by
  have hown' := hown
  obtain ⟨hl0, xs, h1, h2⟩ := hown
  have h1c : ∀ y ∈ vs, y.oneCell' = true := by
    intro y hy
    obtain ⟨k, hk⟩ := List.mem_iff_getElem?.1 hy
    have hkl : k < ts.length := by
      have := (List.getElem?_eq_some_iff.1 hk).1
      rw [hr.1] at this; omega
    obtain ⟨y', e1, e2⟩ := hel k _ (List.getElem?_eq_getElem hkl)
    rw [hk] at e1
    cases e1
    exact e2.fit.one
  refine wp_append_sees s x T ho base E i z size bytes hT hi hz hsz hby hzs h0 v n xs hs h1 B u m vs hx hr h1c (by unfold maxLen; omega) (Nat.le_trans (Nat.mul_le_mul hlen hby2) (by omega)) hbase ?_
  intro v' w' g1 g2 g3
  refine h v' w' ⟨by rw [List.length_append, hl0, htl, Nat.add_mul], xs ++ vs, g1, fun k t hk => ?_⟩ (below_ownR hown' g2 hbase) g2
  have hl1 : xs.length = ss.length := by rw [h1.1, hl0]
  have hst : ∀ {y : Value} {t : Spec}, EltS w v y t → EltS w' v' y t := fun {y t} hy => by
    cases t with
    | val x => exact hy
    | byt l => exact ⟨hy.grown g2, fun hm k hk => by
        rcases g3 with e | e
        · rw [e]; exact hy.2 hm k hk
        · rw [e]; intro e2; cases e2; exact absurd (hy.1.blk hm _ hk) (by omega)⟩
  by_cases hkl : k < ss.length
  · rw [List.getElem?_append_left hkl] at hk
    obtain ⟨y, e1, e2⟩ := h2 k t hk
    exact ⟨y, by rw [List.getElem?_append_left (by omega)]; exact e1, hst e2⟩
  · rw [List.getElem?_append_right (by omega)] at hk
    obtain ⟨y, e1, e2⟩ := hel (k - ss.length) t hk
    exact ⟨y, by rw [List.getElem?_append_right (by omega), hl1]; exact e1, hst e2⟩
end
section
open Go Go.RowKit
set_option linter.unusedVariables false
/-- The value is a row of the call's own; its elements are these records, and new. -/
def OwnRF (w : World) (base : Nat) (T : TypeId) (v : Value) (size n : Nat) (ss : List Spec) : Prop :=
  ss.length = n * size ∧ ∃ vs : List Value, w.ownsRow base T size v n vs ∧ ∀ (k : Nat) (s : Spec), ss[k]? = some s → ∃ u, vs[k]? = some u ∧ EltS w v u s ∧ From base u
theorem OwnRF.own {w : World} {base size n : Nat} {T : TypeId} {v : Value} {ss : List Spec} (h : OwnRF w base T v size n ss) : OwnR w base T v size n ss := by
  obtain ⟨h0, vs, h1, h2⟩ := h
  exact ⟨h0, vs, h1, fun k s hk => by obtain ⟨u, e1, e2, -⟩ := h2 k s hk; exact ⟨u, e1, e2⟩⟩
theorem OwnRF.nil (w : World) (base : Nat) (T : TypeId) (size : Nat) : OwnRF w base T (.slice none 0 0) size 0 [] := ⟨by simp, [], World.ownsRow_nil w base T size, fun k s hk => by simp at hk⟩
theorem OwnRF.below {w w' : World} {base size n : Nat} {T : TypeId} {v : Value} {ss : List Spec} (h : OwnRF w base T v size n ss) (hb : Below w.heap.size w w') : OwnRF w' base T v size n ss := by
  obtain ⟨h0, vs, h1, h2⟩ := h
  exact ⟨h0, vs, own_below h1 hb, fun k s hk => by obtain ⟨u, e1, e2, e3⟩ := h2 k s hk; exact ⟨u, e1, e2.below hb, e3⟩⟩
/-- append of records, the source whatever row is seen that does not lie where the target lies. -/
theorem wp_appRF {o : Oper} {a : Act} {w : World} {K : Act → World → Prop} {Q : Exit → Act → World → Prop} (s x : Operand) (T E : TypeId) (hT : Tryz.prog.underlying T = some (.slice E))
    (ho : o.op = .call { callee := .builtin .append, args := #[s, x], argTypes := #[T, T] }) (i : TypeInfo) (z : Value) (size bytes : Nat) (hi : Tryz.prog.info? E = some i) (hz : i.zero = some z)
    (hsz : i.size = size) (hby : i.bytes = bytes) (hzs : z.cells.size = size) (h0 : 0 < size) (hby2 : bytes ≤ 1024)
    (base : Nat) (v : Value) (n : Nat) (ss : List Spec) (hs : a.eval s = v) (hown : OwnRF w base E v size n ss) (B : Nat) (u : Value) (m : Nat) (vs : List Value) (ts : List Spec) (hx : a.eval x = u) (hr : Sees w B u size m vs)
    (htl : ts.length = m * size) (hel : ∀ (k : Nat) (t : Spec), ts[k]? = some t → ∃ y, vs[k]? = some y ∧ EltS w v y t ∧ From base y)
    (hlen : n + m ≤ 1048576) (hbase : base ≤ w.heap.size)
    (h : ∀ v' w', OwnRF w' base E v' size (n + m) (ss ++ ts) → Below base w w' → w.grownBy w' v.ownBlock → K (a.put o.dst v') w') : o.wp Tryz.prog a w K Q := by
  have hown' := OwnRF.own hown
  obtain ⟨hl0, xs, h1, h2⟩ := hown
  have h1c : ∀ y ∈ vs, y.oneCell' = true := by
    intro y hy
    obtain ⟨k, hk⟩ := List.mem_iff_getElem?.1 hy
    have hkl : k < ts.length := by
      have := (List.getElem?_eq_some_iff.1 hk).1
      rw [hr.1] at this; omega
    obtain ⟨y', e1, e2⟩ := hel k _ (List.getElem?_eq_getElem hkl)
    rw [hk] at e1
    cases e1
    exact e2.1.fit.one
  refine wp_append_sees s x T ho base E i z size bytes hT hi hz hsz hby hzs h0 v n xs hs h1 B u m vs hx hr h1c (by unfold maxLen; omega) (Nat.le_trans (Nat.mul_le_mul hlen hby2) (by omega)) hbase ?_
  intro v' w' g1 g2 g3
  refine h v' w' ⟨by rw [List.length_append, hl0, htl, Nat.add_mul], xs ++ vs, g1, fun k t hk => ?_⟩ (below_ownR hown' g2 hbase) g2
  have hl1 : xs.length = ss.length := by rw [h1.1, hl0]
  have hst : ∀ {y : Value} {t : Spec}, EltS w v y t → EltS w' v' y t := fun {y t} hy => by
    cases t with
    | val x => exact hy
    | byt l => exact ⟨hy.grown g2, fun hm k hk => by
        rcases g3 with e | e
        · rw [e]; exact hy.2 hm k hk
        · rw [e]; intro e2; cases e2; exact absurd (hy.1.blk hm _ hk) (by omega)⟩
  by_cases hkl : k < ss.length
  · rw [List.getElem?_append_left hkl] at hk
    obtain ⟨y, e1, e2⟩ := h2 k t hk
    exact ⟨y, by rw [List.getElem?_append_left (by omega)]; exact e1, hst e2.1, e2.2⟩
  · rw [List.getElem?_append_right (by omega)] at hk
    obtain ⟨y, e1, e2⟩ := hel (k - ss.length) t hk
    exact ⟨y, by rw [List.getElem?_append_right (by omega), hl1]; exact e1, hst e2.1, e2.2⟩
/-- The same in a region that draws its order. -/
theorem step_appRF {ops : Array Oper} {o : Oper} {a : Act} {w : World} {K : Act → World → Prop} {Q : Exit → Act → World → Prop} {X : Prop} (hgd : o.guard = none) (s x : Operand) (T E : TypeId) (hT : Tryz.prog.underlying T = some (.slice E))
    (ho : o.op = .call { callee := .builtin .append, args := #[s, x], argTypes := #[T, T] }) (i : TypeInfo) (z : Value) (size bytes : Nat) (hi : Tryz.prog.info? E = some i) (hz : i.zero = some z)
    (hsz : i.size = size) (hby : i.bytes = bytes) (hzs : z.cells.size = size) (h0 : 0 < size) (hby2 : bytes ≤ 1024)
    (base : Nat) (v : Value) (n : Nat) (ss : List Spec) (hs : a.eval s = v) (hown : OwnRF w base E v size n ss) (B : Nat) (u : Value) (m : Nat) (vs : List Value) (ts : List Spec) (hx : a.eval x = u) (hr : Sees w B u size m vs)
    (htl : ts.length = m * size) (hel : ∀ (k : Nat) (t : Spec), ts[k]? = some t → ∃ y, vs[k]? = some y ∧ EltS w v y t ∧ From base y)
    (hlen : n + m ≤ 1048576) (hbase : base ≤ w.heap.size)
    (h : ∀ v' w', OwnRF w' base E v' size (n + m) (ss ++ ts) → Below base w w' → w.grownBy w' v.ownBlock → K (a.put o.dst v') w') : if Region.wanted o (yielded ops a.tmps) = true then Oper.wp Tryz.prog o a w K Q else X := by
  have hw : Region.wanted o (yielded ops a.tmps) = true := by simp [Region.wanted, hgd]
  rw [if_pos hw]
  exact wp_appRF s x T E hT ho i z size bytes hi hz hsz hby hzs h0 hby2 base v n ss hs hown B u m vs ts hx hr htl hel hlen hbase h
end
section
open Go.RowKit
set_option linter.unusedVariables false
attribute [local go_sem ↓] Go.wp_at_zero Go.wp_at_succ
/-- Links as cells. -/
def linkS (ls : List (Bs × Bs × Bs)) : List Spec := ls.flatMap fun t => [.byt t.1, .byt t.2.1, .byt t.2.2]
theorem linkS_len (ls : List (Bs × Bs × Bs)) : (linkS ls).length = ls.length * 3 := by
  induction ls with
  | nil => rfl
  | cons a r ih => simp only [linkS, List.flatMap_cons, List.length_append, List.length_cons, List.length_nil] at *; omega
theorem linkS_get (ls : List (Bs × Bs × Bs)) : ∀ (k : Nat) (t : Bs × Bs × Bs), ls[k]? = some t → (linkS ls)[k * 3]? = some (.byt t.1) ∧ (linkS ls)[k * 3 + 1]? = some (.byt t.2.1) ∧ (linkS ls)[k * 3 + 2]? = some (.byt t.2.2) := by
  induction ls with
  | nil => intro k t h; simp at h
  | cons a r ih =>
    intro k t h
    cases k with
    | zero =>
      simp at h
      subst h
      exact ⟨rfl, rfl, rfl⟩
    | succ k =>
      rw [List.getElem?_cons_succ] at h
      obtain ⟨h1, h2, h3⟩ := ih k t h
      rw [show (k + 1) * 3 = k * 3 + 3 by omega, show k * 3 + 3 + 1 = k * 3 + 1 + 3 by omega, show k * 3 + 3 + 2 = k * 3 + 2 + 3 by omega]
      exact ⟨h1, h2, h3⟩
theorem linkS_append (a b : List (Bs × Bs × Bs)) : linkS (a ++ b) = linkS a ++ linkS b := by simp [linkS]
theorem link_at {w : World} {B n c : Nat} {A : Option Addr} {ls : List (Bs × Bs × Bs)} (h : SeesR w B (.slice A n c) 3 n (linkS ls)) (k : Nat) (t : Bs × Bs × Bs) (hk : ls[k]? = some t) :
    ∃ b o A1 c1 A2 c2 A3 c3, A = some ⟨b, o, none⟩ ∧ b < B ∧ w.cell? ⟨b, o + k * 3, none⟩ = some (.slice A1 t.1.length c1) ∧ SeesB w B (.slice A1 t.1.length c1) t.1 ∧
      w.cell? ⟨b, o + k * 3 + 1, none⟩ = some (.slice A2 t.2.1.length c2) ∧ SeesB w B (.slice A2 t.2.1.length c2) t.2.1 ∧ w.cell? ⟨b, o + k * 3 + 2, none⟩ = some (.slice A3 t.2.2.length c3) ∧ SeesB w B (.slice A3 t.2.2.length c3) t.2.2 := by
  have hl := h.1
  rw [linkS_len] at hl
  have hkl := (List.getElem?_eq_some_iff.1 hk).1
  obtain ⟨b, o, e, hb, hc⟩ := h.at_ (by omega)
  obtain ⟨g1, g2, g3⟩ := linkS_get ls k t hk
  obtain ⟨u1, d1, f1⟩ := hc _ _ g1
  obtain ⟨u2, d2, f2⟩ := hc _ _ g2
  obtain ⟨u3, d3, f3⟩ := hc _ _ g3
  have f1 : SeesB w B u1 t.1 := f1
  have f2 : SeesB w B u2 t.2.1 := f2
  have f3 : SeesB w B u3 t.2.2 := f3
  obtain ⟨A1, c1, rfl, -, -⟩ := f1.mk_
  obtain ⟨A2, c2, rfl, -, -⟩ := f2.mk_
  obtain ⟨A3, c3, rfl, -, -⟩ := f3.mk_
  exact ⟨b, o, A1, c1, A2, c2, A3, c3, e, hb, d1, f1, by rw [Nat.add_assoc]; exact d2, f2, by rw [Nat.add_assoc]; exact d3, f3⟩
end
section
open Go Go.RowKit
set_option linter.unusedVariables false
attribute [local go_sem ↓] Go.wp_at_zero Go.wp_at_succ
set_option maxRecDepth 100000 in
theorem followed_none (n : Nat) (B : Nat) (w : World) (hB : B < w.heap.size) (hc : w.cell? ⟨B, 0, none⟩ = some (.slice none 0 0)) :
    SeqStopsK Fence.wide n Tryz.prog 37 #[.pointer (some ⟨B, 0, none⟩)] (fun k : Empty => k.elim) (Below w.heap.size) (fun ys => True) (fun pre => True) 0 w := fun l J Jx W hW hJ _ hY h0 => by
  have hc2 := (hW.cell (p := ⟨B, 0, none⟩) hB).trans hc
  clear hc hY
  refine callsIn_of_wp Tryz.func37 rfl trivial ?_ rfl
  simp only [Tryz.ntmps37, List.size_toArray, List.length_cons, List.length_nil, Nat.reduceAdd, Nat.reduceSub, Array.replicate_succ, Array.replicate_zero, List.push_toArray, List.append_toArray, List.nil_append, List.cons_append]
  gi_wp2
  gi_loopw [7] (fun i wr => i = .int .i64 0 ∧ J [] wr ∧ wr = W) (fun i _ => 0)
  case atStart => exact ⟨rfl, h0, rfl⟩
  case round =>
    obtain ⟨rfl, hJ1, rfl⟩ := hrel
    gi_wp2
    go_end0
    exact ⟨⟨_, rfl⟩, .inl ⟨_, trivial, hJ1⟩⟩
set_option maxRecDepth 100000 in
theorem followed_any (A : Option Addr) (n c : Nat) (w : World) : Calls Tryz.prog 33 #[.slice A n c] w fun e w' => e = .returned (.func (.func 37) #[] #[.pointer (some ⟨w.heap.size, 0, none⟩)]) ∧ w' = w.alloc (.cells #[.slice A n c] 22) := by
  go_enter Tryz.func33, Tryz.ntmps33
  go_wp2_with fail
  go_ret
  exact ⟨rfl, rfl⟩
def VNil (w : World) (e : Ending) (w' : World) : Prop := e = .returned (.tuple #[.slice none 0 0, .int .i64 0]) ∧ Below w.heap.size w w'
set_option maxRecDepth 100000 in
set_option maxHeartbeats 2000000 in
theorem cverify_in (w : World) : CallsIn Fence.wide 3 Tryz.prog 24 #[.slice none 0 0] w (VNil w) := by
  refine callsIn_of_wp_marks Tryz.func24 rfl trivial ?_ rfl
  simp only [Tryz.ntmps24, List.size_toArray, List.length_cons, List.length_nil, Nat.reduceAdd, Nat.reduceSub, Array.replicate_succ, Array.replicate_zero, List.push_toArray, List.append_toArray, List.nil_append, List.cons_append]
  gi_wp2
  have hb3 := bgo (bgo (balloc w (.cells #[.slice none 0 0] 53)) (balloc _ (.cells #[.int .i64 0] 30))) (balloc _ (.cells #[.slice none 0 0] 53))
  have hx0 := ((Box.new w 53 [.slice none 0 0]).below (balloc _ (.cells #[.int .i64 0] 30))).below (balloc _ (.cells #[.slice none 0 0] 53))
  have hx1 := (Box.new (w.alloc (.cells #[.slice none 0 0] 53)) 30 [.int .i64 0]).below (balloc _ (.cells #[.slice none 0 0] 53))
  have hx2 := Box.new ((w.alloc (.cells #[.slice none 0 0] 53)).alloc (.cells #[.int .i64 0] 30)) 53 [.slice none 0 0]
  rw [World.size_alloc] at hx1
  rw [World.size_alloc, World.size_alloc] at hx2
  change Box (((w.alloc (.cells #[.slice none 0 0] 53)).alloc (.cells #[.int .i64 0] 30)).alloc (.cells #[.slice none 0 0] 53)) _ _ _ at hx0 hx1 hx2
  generalize ((w.alloc (.cells #[.slice none 0 0] 53)).alloc (.cells #[.int .i64 0] 30)).alloc (.cells #[.slice none 0 0] 53) = W3 at *
  refine ⟨trivial, (callsIn_wide.2 (followed_any _ _ _ _)).mono ?_⟩
  rintro e w' ⟨rfl, rfl⟩
  dsimp only
  gi_wp2
  have hal := balloc W3 (.cells #[.slice none 0 0] 22)
  have hx3 := Box.new W3 22 [.slice none 0 0]
  replace hx0 := hx0.below hal
  replace hx1 := hx1.below hal
  replace hx2 := hx2.below hal
  replace hb3 := bgo hb3 hal
  change Box (W3.alloc (.cells #[.slice none 0 0] 22)) _ _ _ at hx0 hx1 hx2 hx3
  generalize W3.alloc (.cells #[.slice none 0 0] 22) = W4 at *
  generalize W3.heap.size = G at *
  refine wpIn_rangeFunc_ownG (α := Empty) rfl (by omega) (gf := 37) (lb := #[.pointer (some ⟨G, 0, none⟩)]) rfl trivial (enters_of Tryz.func37 (by kernel_rfl) rfl)
    (followed_none 2 G W4 hx3.lt (hx3.cell 0)) belowK_t (belowK_b (Nat.le_refl _)) (Below.refl _ _) (fun x => x.elim)
    (fun _ W => Below W4.heap.size W4 W) (fun _ _ _ => False)
    (ownFrom_below (Nat.le_refl _) (Nat.le_refl _))
    (fun _ _ _ _ _ hs _ _ => hs)
    (Below.refl _ _)
    (fun k => k.elim) ?assign ?body ?done ?stop
  case assign =>
    intro l x
    exact x.elim
  case body =>
    intro l pre x
    exact x.elim
  case done =>
    rintro D ys W hD - hB hK
    have hl0 := hx0.lt
    have hl1 := hx1.lt
    have c2 : W.cell? ⟨w.heap.size + 1 + 1, 0, none⟩ = some (.slice none 0 0) := (hx2.below hB).cell 0
    have c0 : W.cell? ⟨w.heap.size, 0, none⟩ = some (.slice none 0 0) := (hx0.below hB).cell 0
    have c1 : W.cell? ⟨w.heap.size + 1, 0, none⟩ = some (.int .i64 0) := (hx1.below hB).cell 0
    have f0 := (hx0.below hB).frozen 0
    have f1 := (hx1.below hB).frozen 0
    have hbW := bgo hb3 hB
    gi_wp2
    have hne0 : D ≠ w.heap.size := by omega
    have hne1 : D ≠ w.heap.size + 1 := by omega
    have hK' : ((W.setCell ⟨w.heap.size, 0, none⟩ (.slice none 0 0)).setCell ⟨w.heap.size + 1, 0, none⟩ (.int .i64 0)).heap[D]? = some (.deferred (some [])) := by
      rw [Below.heap_setCell _ ⟨w.heap.size + 1, 0, none⟩ _ D hne1, Below.heap_setCell _ ⟨w.heap.size, 0, none⟩ _ D hne0]
      exact hK
    have hbS : Below w.heap.size w ((W.setCell ⟨w.heap.size, 0, none⟩ (.slice none 0 0)).setCell ⟨w.heap.size + 1, 0, none⟩ (.int .i64 0)) := (hbW.setCell (p := ⟨w.heap.size, 0, none⟩) (Nat.le_refl _) _).setCell (p := ⟨w.heap.size + 1, 0, none⟩) (Nat.le_succ _) _
    have hy0 : Box ((W.setCell ⟨w.heap.size, 0, none⟩ (.slice none 0 0)).setCell ⟨w.heap.size + 1, 0, none⟩ (.int .i64 0)) w.heap.size 53 [.slice none 0 0] := ((hx0.below hB).set 0 _).other (by omega)
    have hy1 : Box ((W.setCell ⟨w.heap.size, 0, none⟩ (.slice none 0 0)).setCell ⟨w.heap.size + 1, 0, none⟩ (.int .i64 0)) (w.heap.size + 1) 30 [.int .i64 0] := ((hx1.below hB).other (by omega)).set 0 _
    generalize (W.setCell ⟨w.heap.size, 0, none⟩ (.slice none 0 0)).setCell ⟨w.heap.size + 1, 0, none⟩ (.int .i64 0) = W6 at *
    refine ⟨by simp, .inl ⟨_, _, rfl, run_takeDeferred hK', ?_⟩⟩
    have hD0 : D < W6.heap.size := (Array.getElem?_eq_some_iff.1 hK').1
    have hy2 : Box (W6.putObj D (.deferred none)) w.heap.size 53 [.slice none 0 0] := (World.putObj_heap_other (fun e => hne0 e.symm)).trans hy0
    have hy3 : Box (W6.putObj D (.deferred none)) (w.heap.size + 1) 30 [.int .i64 0] := (World.putObj_heap_other (fun e => hne1 e.symm)).trans hy1
    have hbT : Below w.heap.size w (W6.putObj D (.deferred none)) := hbS.trans (belowK_b (w := w) (Nat.le_refl _) W6 D _ _ (by omega) hK' rfl rfl)
    generalize W6.putObj D (.deferred none) = W7 at *
    have z0 : W7.cell? ⟨w.heap.size, 0, none⟩ = some (.slice none 0 0) := hy2.cell 0
    have z1 : W7.cell? ⟨w.heap.size + 1, 0, none⟩ = some (.int .i64 0) := hy3.cell 0
    exact ⟨.tuple #[.slice none 0 0, .int .i64 0], by simp [results, Tryz.results24, go_sem, z0, z1], rfl, hbT⟩
  case stop =>
    rintro D c pre W _ _ h _
    exact h.elim
end
section
open Go Go.RowKit
set_option linter.unusedVariables false
attribute [local go_sem ↓] Go.wp_at_zero Go.wp_at_succ
theorem rsame_eq (B B' : Nat) (u v : Value) (a : Bs) (w : World) (hu : SeesB w B u a) (hv : SeesB w B' v a) : Calls Tryz.prog 9 #[u, v] w fun e w' => e = .returned (.bool true) ∧ w' = w := by
  refine (rsame_any B B' u v a a w hu hv).mono ?_
  rintro e w' ⟨rfl, rfl⟩
  exact ⟨ret_bool (by simp), rfl⟩
end
section
open Go Go.RowKit
set_option linter.unusedVariables false
set_option linter.unusedSimpArgs false
attribute [local go_sem ↓] Go.wp_at_zero Go.wp_at_succ
theorem box2_cells {W : World} {g : Nat} {T : TypeId} {a b : Value} (h : Box W g T [a, b]) : W.cell? ⟨g, 0, none⟩ = some a ∧ W.cell? ⟨g, 1, none⟩ = some b ∧ W.frozen? ⟨g, 0, none⟩ = false ∧ W.frozen? ⟨g, 1, none⟩ = false := ⟨h.cell 0, h.cell 1, h.frozen 0, h.frozen 1⟩
end
section
open Go Go.RowKit
set_option linter.unusedVariables false
abbrev LinkG := Bs × Bs × Bs
def linkT (ls : List LinkG) (i : Nat) : LinkG := ls.getD i ([], [], [])
end
section
open Go Go.RowKit
set_option linter.unusedVariables false
set_option linter.unusedSimpArgs false
attribute [local go_sem ↓] Go.wp_at_zero Go.wp_at_succ
set_option maxRecDepth 100000 in
set_option maxHeartbeats 4000000 in
theorem rcsame_eq (u v : Value) (ls : List LinkG) (w : World) (hu : SeesR w w.heap.size u 3 ls.length (linkS ls)) (hv : SeesR w w.heap.size v 3 ls.length (linkS ls)) (hn : ls.length ≤ 1048576) :
    Calls Tryz.prog 20 #[u, v] w (BoolPost true w) := by
  obtain ⟨A, c, rfl, -, -⟩ := hu.mk_
  obtain ⟨A', c', rfl, -, -⟩ := hv.mk_
  replace hu := Lib.hid hu
  replace hv := Lib.hid hv
  go_enter Tryz.func20, Tryz.ntmps20
  go_wp2_with fail
  go_loopw [5] (fun t wr => ∃ k : Nat, k ≤ ls.length ∧ t = .int .i64 k ∧ Hid (Below w.heap.size w wr)) (fun t _ => ls.length - (intOf t).toNat)
  case atStart => exact ⟨0, by omega, rfl, Below.refl _ _⟩
  case round =>
    obtain ⟨k, hk, rfl, hb⟩ := hrel
    by_cases hlt : k < ls.length
    · have hdk : ls[k]? = some (linkT ls k) := by rw [linkT, List.getD_eq_getElem?_getD, List.getElem?_eq_getElem hlt]; rfl
      obtain ⟨b, o, A1, c1, A2, c2, A3, c3, eA, hbB, z1, s1, z2, s2, z3, s3⟩ := link_at ((hu.out.below hb.out).more hb.out.size) k _ hdk
      obtain ⟨b', o', A4, c4, A5, c5, A6, c6, eA', hbB', z4, s4, z5, s5, z6, s6⟩ := link_at ((hv.out.below hb.out).more hb.out.size) k _ hdk
      subst eA
      subst eA'
      generalize linkT ls k = t at *
      obtain ⟨t1, t2, t3⟩ := t
      dsimp only at *
      have i0 : (k : Int) < (ls.length : Int) := by omega
      have j0 : (0 : Int) ≤ (k : Int) := by omega
      have hs1 : Hid (∀ W, Below wr.heap.size wr W → Calls Tryz.prog 9 #[.slice A1 t1.length c1, .slice A4 t1.length c4] W fun e w' => e = .returned (.bool true) ∧ w' = W) := fun W hW => rsame_eq _ _ _ _ t1 W (seesB_of s1 (Nat.le_refl _) hW) (seesB_of s4 (Nat.le_refl _) hW)
      have hs2 : Hid (∀ W, Below wr.heap.size wr W → Calls Tryz.prog 9 #[.slice A2 t2.length c2, .slice A5 t2.length c5] W fun e w' => e = .returned (.bool true) ∧ w' = W) := fun W hW => rsame_eq _ _ _ _ t2 W (seesB_of s2 (Nat.le_refl _) hW) (seesB_of s5 (Nat.le_refl _) hW)
      have hs3 : Hid (∀ W, Below wr.heap.size wr W → Calls Tryz.prog 9 #[.slice A3 t3.length c3, .slice A6 t3.length c6] W fun e w' => e = .returned (.bool true) ∧ w' = W) := fun W hW => rsame_eq _ _ _ _ t3 W (seesB_of s3 (Nat.le_refl _) hW) (seesB_of s6 (Nat.le_refl _) hW)
      have K : Hid (∀ W, Below wr.heap.size wr W → W.cell? ⟨b, o + k * 3, none⟩ = some (.slice A1 t1.length c1) ∧ W.cell? ⟨b, o + k * 3 + 1, none⟩ = some (.slice A2 t2.length c2) ∧ W.cell? ⟨b, o + k * 3 + 2, none⟩ = some (.slice A3 t3.length c3) ∧ W.cell? ⟨b', o' + k * 3, none⟩ = some (.slice A4 t1.length c4) ∧ W.cell? ⟨b', o' + k * 3 + 1, none⟩ = some (.slice A5 t2.length c5) ∧ W.cell? ⟨b', o' + k * 3 + 2, none⟩ = some (.slice A6 t3.length c6)) := fun W hW =>
        ⟨(hW.cell (p := ⟨b, o + k * 3, none⟩) hbB).trans z1, (hW.cell (p := ⟨b, o + k * 3 + 1, none⟩) hbB).trans z2, (hW.cell (p := ⟨b, o + k * 3 + 2, none⟩) hbB).trans z3, (hW.cell (p := ⟨b', o' + k * 3, none⟩) hbB').trans z4, (hW.cell (p := ⟨b', o' + k * 3 + 1, none⟩) hbB').trans z5, (hW.cell (p := ⟨b', o' + k * 3 + 2, none⟩) hbB').trans z6⟩
      clear s1 s2 s3 s4 s5 s6 hdk hbB hbB'
      go_wp2_with fail
      go_region_held3 (fun W' : World => W'.cell? ⟨b, o + k * 3, none⟩ = some (.slice A1 t1.length c1) ∧ W'.cell? ⟨b, o + k * 3 + 1, none⟩ = some (.slice A2 t2.length c2) ∧ W'.cell? ⟨b, o + k * 3 + 2, none⟩ = some (.slice A3 t3.length c3) ∧ W'.cell? ⟨b', o' + k * 3, none⟩ = some (.slice A4 t1.length c4) ∧ W'.cell? ⟨b', o' + k * 3 + 1, none⟩ = some (.slice A5 t2.length c5) ∧ W'.cell? ⟨b', o' + k * 3 + 2, none⟩ = some (.slice A6 t3.length c6))
        (first | exact K.out _ (by (repeat (first | exact Below.refl _ _ | (refine bgo ?_ (balloc _ _)) | (refine bgo ?_ (bdrew _)) | (refine bgo ?_ (by assumption))))) | (go_keep; done))
        (first
          | (go_at_call 9; (with_reducible refine (hs1.out _ (by (repeat (first | exact Below.refl _ _ | (refine bgo ?_ (balloc _ _)) | (refine bgo ?_ (bdrew _)) | (refine bgo ?_ (by assumption)))))).mono ?_); rintro e w1 ⟨rfl, hw⟩
             obtain rfl := hw.symm)
          | (go_at_call 9; (with_reducible refine (hs2.out _ (by (repeat (first | exact Below.refl _ _ | (refine bgo ?_ (balloc _ _)) | (refine bgo ?_ (bdrew _)) | (refine bgo ?_ (by assumption)))))).mono ?_); rintro e w1 ⟨rfl, hw⟩
             obtain rfl := hw.symm)
          | (go_at_call 9; (with_reducible refine (hs3.out _ (by (repeat (first | exact Below.refl _ _ | (refine bgo ?_ (balloc _ _)) | (refine bgo ?_ (bdrew _)) | (refine bgo ?_ (by assumption)))))).mono ?_); rintro e w1 ⟨rfl, hw⟩
             obtain rfl := hw.symm))
      all_goals
        have hb1 := Lib.hid (bgo hb.out (bdrew wr))
        go_wp2_with fail
        go_roundw
        case rel => first | exact ⟨k + 1, by omega, by go_num, hb1⟩ | exact ⟨k + 1, by omega, by go_num, hb⟩
        case measure => simp [intOf]; omega
    · have i0 : ¬ (k : Int) < (ls.length : Int) := by omega
      go_wp2_with fail
      go_returns
      exact ⟨rfl, hb.out⟩
end
end Go.Proofs.YtcoehlmeegoofaaGreat

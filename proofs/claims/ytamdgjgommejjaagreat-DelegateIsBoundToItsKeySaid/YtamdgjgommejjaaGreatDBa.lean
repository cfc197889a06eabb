/- A piece of my texts, cut out by slice.py: what a claim leans on. -/
import Derived.Laws.BitsAllLaws
import Derived.Laws.Bits64b
import Derived.RowKit
import Derived.WalkKit
import Derived.Test.YtamdgjgommejjaaGreatRows
import Derived.Below
import Derived.Laws.OwnMore
import Derived.Laws.Slices
import Derived.Laws.CopyOwn
import Derived.Deep.Draws
import Derived.Lib.Hide
import Derived.Maps.AppendAt
import Derived.Deep.QuietTactic
import Derived.Shelf.Bytes.SlSmallAll
import Derived.WalkLawsBesides
import Derived.Handy
import Derived.Outline
import Derived.Laws.MathBits
import Derived.BigQuiet
import Derived.Deep.OwnRows
import Derived.Deep.RegionHeld3
import Derived.Deep.DrawnRows
import Derived.Lib.AppendZeros
import Derived.OwnWalk
import Derived.Lib.BufferMore
import Derived.Lib.Strings
import Derived.Lib.Slices
import Derived.Lib.Small
import Derived.Lib.Walk
import Derived.Lib.BitFns
import Derived.Lib.Overlaps
import Derived.Deep.DeepCutAuto
import Derived.RangeFuncBox
import Derived.RangeFuncLeaves
import Derived.Shelf.Abstract
import Derived.OwnWalkIn
import Derived.TacticsInMore
import Derived.LoopNIn
import Derived.LoopIn
import Derived.Sort.QuietIn
import Derived.Lib.SmallJoins
import Derived.ChangeSame
import Derived.ProofKit
import Derived.OpenShut
import Derived.Shelf.GgClosure.StringsIndexFuncTop
import Derived.Laws.RangeString
import Derived.Laws.RangeAny
import Derived.Lib.AppendStr
import Derived.Lib.SlBytesConst
namespace Go.Proofs.YtamdgjgommejjaaGreat
section
open Go.RowKit
abbrev Wd := BitVec 32
def wdV (a : Wd) : Value := .int .u32 (a.toNat : Int)
theorem wd_lt (a : Wd) : (a.toNat : Int) < 4294967296 := by have := a.isLt; omega
theorem wd_add (a b : Wd) : IntKind.u32.wrap ((a.toNat : Int) + (b.toNat : Int)) = ((a + b).toNat : Int) := by
  rw [IntKind.wrap_u32, BitVec.toNat_add]; omega
theorem wd_xor (a b : Wd) : bits .xor .u32 (a.toNat : Int) (b.toNat : Int) = ((a ^^^ b).toNat : Int) := by
  rw [u32_xor_nat _ _ a.isLt b.isLt, BitVec.toNat_xor]
theorem wd_and (a b : Wd) : bits .and .u32 (a.toNat : Int) (b.toNat : Int) = ((a &&& b).toNat : Int) := by
  rw [u32_and_nat _ _ a.isLt b.isLt, BitVec.toNat_and]
theorem wd_or (a b : Wd) : bits .or .u32 (a.toNat : Int) (b.toNat : Int) = ((a ||| b).toNat : Int) := by
  rw [u32_or_nat _ _ a.isLt b.isLt, BitVec.toNat_or]
theorem wd_shr (a : Wd) (k : Nat) (m : Int) (h : m = ((2 ^ k : Nat) : Int)) : (a.toNat : Int) / m = ((a >>> k).toNat : Int) := by
  subst h
  rw [BitVec.toNat_ushiftRight, Nat.shiftRight_eq_div_pow]
  exact (Int.natCast_ediv _ _).symm
theorem wd_shl (a : Wd) (k : Nat) (m : Int) (h : m = ((2 ^ k : Nat) : Int)) : IntKind.u32.wrap ((a.toNat : Int) * m) = ((a <<< k).toNat : Int) := by
  subst h
  rw [IntKind.wrap_u32, BitVec.toNat_shiftLeft, Nat.shiftLeft_eq, ← Int.natCast_mul]
  omega
theorem wd_shl' (a : Wd) (k : Nat) (m : Int) (h : m = ((2 ^ k : Nat) : Int)) : (a.toNat : Int) * m % 4294967296 = ((a <<< k).toNat : Int) := by
  rw [← wd_shl a k m h, IntKind.wrap_u32]
theorem wd_add' (a b : Wd) : ((a.toNat : Int) + (b.toNat : Int)) % 4294967296 = ((a + b).toNat : Int) := by
  rw [← wd_add, IntKind.wrap_u32]
end
section
open Go.RowKit
abbrev Bs := List UInt8
/-- The last n bytes of a number, the greatest first. -/
def putB : Nat → Nat → Bs
  | 0, _ => []
  | n + 1, v => putB n (v / 256) ++ [UInt8.ofNat v]
theorem putB_len (n v : Nat) : (putB n v).length = n := by
  induction n generalizing v with
  | zero => rfl
  | succ n ih => simp [putB, ih]
/-- The number in bytes, modulo 2^64. -/
def getB (l : Bs) : Nat := l.foldl (fun v x => (v * 256 + x.toNat) % 18446744073709551616) 0
structure St where
  a : Wd
  b : Wd
  c : Wd
  d : Wd
  e : Wd
  f : Wd
  g : Wd
  h : Wd
def rotr (x : Wd) (k : Nat) : Wd := (x <<< (32 - k)) ||| (x >>> k)
def kTab : List Wd := [0x428a2f98, 0x71374491, 0xb5c0fbcf, 0xe9b5dba5, 0x3956c25b, 0x59f111f1, 0x923f82a4, 0xab1c5ed5,
  0xd807aa98, 0x12835b01, 0x243185be, 0x550c7dc3, 0x72be5d74, 0x80deb1fe, 0x9bdc06a7, 0xc19bf174,
  0xe49b69c1, 0xefbe4786, 0x0fc19dc6, 0x240ca1cc, 0x2de92c6f, 0x4a7484aa, 0x5cb0a9dc, 0x76f988da,
  0x983e5152, 0xa831c66d, 0xb00327c8, 0xbf597fc7, 0xc6e00bf3, 0xd5a79147, 0x06ca6351, 0x14292967,
  0x27b70a85, 0x2e1b2138, 0x4d2c6dfc, 0x53380d13, 0x650a7354, 0x766a0abb, 0x81c2c92e, 0x92722c85,
  0xa2bfe8a1, 0xa81a664b, 0xc24b8b70, 0xc76c51a3, 0xd192e819, 0xd6990624, 0xf40e3585, 0x106aa070,
  0x19a4c116, 0x1e376c08, 0x2748774c, 0x34b0bcb5, 0x391c0cb3, 0x4ed8aa4a, 0x5b9cca4f, 0x682e6ff3,
  0x748f82ee, 0x78a5636f, 0x84c87814, 0x8cc70208, 0x90befffa, 0xa4506ceb, 0xbef9a3f7, 0xc67178f2]
def kAt (t : Nat) : Wd := kTab.getD t 0
def st0 : St := ⟨0x6a09e667, 0xbb67ae85, 0x3c6ef372, 0xa54ff53a, 0x510e527f, 0x9b05688c, 0x1f83d9ab, 0x5be0cd19⟩
def sig0 (x : Wd) : Wd := rotr x 7 ^^^ rotr x 18 ^^^ (x >>> 3)
def sig1 (x : Wd) : Wd := rotr x 17 ^^^ rotr x 19 ^^^ (x >>> 10)
def sched (m : Nat → Wd) (t : Nat) : Wd := if t < 16 then m t else sig1 (sched m (t - 2)) + sched m (t - 7) + sig0 (sched m (t - 15)) + sched m (t - 16)
termination_by t
def rnd (s : St) (k w : Wd) : St :=
  let t1 := s.h + (rotr s.e 6 ^^^ rotr s.e 11 ^^^ rotr s.e 25) + ((s.e &&& s.f) ^^^ (~~~s.e &&& s.g)) + k + w
  let t2 := (rotr s.a 2 ^^^ rotr s.a 13 ^^^ rotr s.a 22) + ((s.a &&& s.b) ^^^ (s.a &&& s.c) ^^^ (s.b &&& s.c))
  ⟨t1 + t2, s.a, s.b, s.c, s.d + t1, s.e, s.f, s.g⟩
def rnds (s : St) (w : Nat → Wd) : Nat → St
  | 0 => s
  | n + 1 => rnd (rnds s w n) (kAt n) (w n)
def addSt (s v : St) : St := ⟨s.a + v.a, s.b + v.b, s.c + v.c, s.d + v.d, s.e + v.e, s.f + v.f, s.g + v.g, s.h + v.h⟩
def word4 (a b c d : UInt8) : Wd := (BitVec.ofNat 32 a.toNat <<< 24) ||| (BitVec.ofNat 32 b.toNat <<< 16) ||| (BitVec.ofNat 32 c.toNat <<< 8) ||| BitVec.ofNat 32 d.toNat
def wordAt (bs : Bs) (t : Nat) : Wd := word4 (bs.getD (4 * t) 0) (bs.getD (4 * t + 1) 0) (bs.getD (4 * t + 2) 0) (bs.getD (4 * t + 3) 0)
def compress (s : St) (bs : Bs) : St := addSt s (rnds s (sched (wordAt bs)) 64)
/-- The state behind n whole blocks. -/
def absorb (s : St) (bs : Bs) : Nat → St
  | 0 => s
  | n + 1 => compress (absorb s bs n) ((bs.drop (64 * n)).take 64)
def stAt (s : St) : Nat → Wd
  | 0 => s.a
  | 1 => s.b
  | 2 => s.c
  | 3 => s.d
  | 4 => s.e
  | 5 => s.f
  | 6 => s.g
  | _ => s.h
def stList (s : St) : List Wd := [s.a, s.b, s.c, s.d, s.e, s.f, s.g, s.h]
def outOf (l : List Wd) : Bs := l.flatMap fun x => putB 4 x.toNat
def out (s : St) : Bs := outOf (stList s)
def padding (n count : Nat) : Bs := 128 :: (List.replicate (if n + 9 ≤ 64 then 55 - n else 119 - n) 0 ++ putB 8 (count * 8))
def finish (s : St) (rest : Bs) (count : Nat) : Bs := out (absorb s (rest ++ padding rest.length count) ((rest ++ padding rest.length count).length / 64))
def sha (bs : Bs) : Bs := finish (absorb st0 bs (bs.length / 64)) (bs.drop (64 * (bs.length / 64))) bs.length
theorem sha_len (bs : Bs) : (sha bs).length = 32 := by
  simp [sha, finish, out, outOf, stList, putB_len]
def short (bs : Bs) : Bs := (sha bs).take 16
theorem short_len (bs : Bs) : (short bs).length = 16 := by simp [short, sha_len]
def chainH : Nat → Bs → Bs
  | 0, b => b
  | n + 1, b => short (chainH n b)
theorem chainH_add (m n : Nat) (b : Bs) : chainH m (chainH n b) = chainH (n + m) b := by
  induction m with
  | zero => rfl
  | succ m ih => rw [← Nat.add_assoc, chainH, chainH, ih]
end
section
open Go.RowKit
/-- A byte as a cell. -/
def byV (b : UInt8) : Value := .int .u8 (b.toNat : Int)
theorem ret_int {k : IntKind} {a b : Int} (h : a = b) : Ending.returned (.int k a) = .returned (.int k b) := by rw [h]
theorem ret_bool {a b : Bool} (h : a = b) : Ending.returned (.bool a) = .returned (.bool b) := by rw [h]
theorem below_drewN {B : Nat} {a w : World} (h : Below B a w) (n : Nat) : Below B a (w.drewN n) := ⟨h.os, h.tape, h.output, h.size, h.block⟩
theorem grown_of_below {w w' : World} (h : Below w.heap.size w w') (row : Option Nat) : w.grownBy w' row := ⟨h.os, h.tape, h.output, h.size, fun k hk _ => h.block k hk⟩
theorem own_below {w w' : World} {base size n : Nat} {e : TypeId} {v : Value} {xs : List Value} (h : w.ownsRow base e size v n xs) (hb : Below w.heap.size w w') : w'.ownsRow base e size v n xs :=
  h.kept (grown_of_below hb none) (by cases v.ownBlock <;> simp)
theorem add_zero' (b o k : Nat) : (⟨b, o, none⟩ : Addr).add k = ⟨b, o + k, none⟩ := by
  unfold Addr.add; split
  · subst_vars; rfl
  · rfl
theorem quiet_on {P : Program} {f : FuncId} {args : Array Value} {w : World} {a n : Nat} {v : Value} (h : Calls P f args (w.drewN (a + n)) fun e w' => e = .returned v ∧ w' = w.drewN (a + n)) :
    Calls P f args (w.drewN (a + n)) fun e w' => e = .returned v ∧ ∃ m, w' = w.drewN (a + m) := h.mono fun _ _ ⟨he, hw⟩ => ⟨he, n, hw⟩
theorem set_block (w : World) (g o : Nat) (v : Value) {cs : Array Value} {T : TypeId} (h : w.heap[g]? = some (.cells cs T)) : (w.setCell ⟨g, o, none⟩ v).heap[g]? = some (.cells (cs.setIfInBounds o v) T) := by
  simp [World.setCell, Array.getElem?_modify, h]
theorem block_cell {w : World} {g : Nat} {l : List Value} {T : TypeId} (h : w.heap[g]? = some (.cells l.toArray T)) (j : Nat) : w.cell? ⟨g, j, none⟩ = l[j]? := by
  rw [cell_of_row w g j _ _ _ h]; simp
theorem take_cells {w : World} {g n : Nat} {l : List Value} {T : TypeId} (h : w.heap[g]? = some (.cells l.toArray T)) (j : Nat) (v : Value) (hj : (l.take n)[j]? = some v) : w.cell? ((⟨g, 0, none⟩ : Addr).add j) = some v := by
  rw [add_zero', Nat.zero_add, block_cell h]
  rw [List.getElem?_take] at hj
  split at hj
  · exact hj
  · cases hj
theorem grown_drew {a w : World} {row : Option Nat} (h : a.grownBy w row) : a.grownBy w.drew row := ⟨h.os, h.tape, h.output, h.size, h.block⟩
theorem only_setCell {a w : World} {g : Nat} (h : a.grownBy w (some g)) {p : Addr} (hp : p.block = g ∨ a.heap.size ≤ p.block) (u : Value) : a.grownBy (w.setCell p u) (some g) :=
  ⟨h.os, h.tape, h.output, by simpa [World.setCell] using h.size, fun i hi hne => (Below.heap_setCell w p u i (fun e => by
    subst e
    rcases hp with hp | hp
    · exact hne (by rw [hp])
    · omega)).trans (h.block i hi hne)⟩
/-- The value v is a slice of n elements of 'size' cells each; these cells are xs; they lie below block B. -/
def Sees (w : World) (B : Nat) (v : Value) (size n : Nat) (xs : List Value) : Prop :=
  xs.length = n * size ∧ ∃ A c, v = .slice A n c ∧ n ≤ c ∧ c ≤ maxLen ∧
    (0 < n → ∃ b o, A = some ⟨b, o, none⟩ ∧ b < B ∧ ∀ j u, xs[j]? = some u → w.cell? ⟨b, o + j, none⟩ = some u)
section
variable {w w' : World} {B B' size n : Nat} {v : Value} {xs : List Value}
theorem Sees.nil (w : World) (B size : Nat) : Sees w B (.slice none 0 0) size 0 [] := ⟨by simp, none, 0, rfl, Nat.le_refl _, Nat.zero_le _, fun h => absurd h (by omega)⟩
theorem Sees.len (h : Sees w B v size n xs) : xs.length = n * size := h.1
theorem Sees.mk_ (h : Sees w B v size n xs) : ∃ A c, v = .slice A n c ∧ n ≤ c ∧ c ≤ maxLen := by
  obtain ⟨_, A, c, hv, h1, h2, _⟩ := h
  exact ⟨A, c, hv, h1, h2⟩
theorem Sees.at_ {A : Option Addr} {c : Nat} (h : Sees w B (.slice A n c) size n xs) (hn : 0 < n) : ∃ b o, A = some ⟨b, o, none⟩ ∧ b < B ∧ ∀ j u, xs[j]? = some u → w.cell? ⟨b, o + j, none⟩ = some u := by
  obtain ⟨_, A', c', hv, _, _, h3⟩ := h
  injection hv with e1 e2 e3
  subst e1; exact h3 hn
theorem Sees.keep (h : Sees w B v size n xs) (hk : ∀ p : Addr, p.block < B → w'.cell? p = w.cell? p) : Sees w' B v size n xs := by
  obtain ⟨h0, A, c, hv, h1, h2, h3⟩ := h
  refine ⟨h0, A, c, hv, h1, h2, fun hn => ?_⟩
  obtain ⟨b, o, e, hb, hc⟩ := h3 hn
  exact ⟨b, o, e, hb, fun j u hu => (hk _ hb).trans (hc j u hu)⟩
theorem Sees.more (h : Sees w B v size n xs) (hB : B ≤ B') : Sees w B' v size n xs := by
  obtain ⟨h0, A, c, hv, h1, h2, h3⟩ := h
  refine ⟨h0, A, c, hv, h1, h2, fun hn => ?_⟩
  obtain ⟨b, o, e, hb, hc⟩ := h3 hn
  exact ⟨b, o, e, by omega, hc⟩
theorem Sees.below (h : Sees w B v size n xs) (hb : Below B w w') : Sees w' B v size n xs := h.keep fun _ hp => hb.cell hp
theorem Sees.drewN (h : Sees w B v size n xs) (k : Nat) : Sees (w.drewN k) B v size n xs := h
theorem Sees.drew (h : Sees w B v size n xs) : Sees w.drew B v size n xs := h
theorem Sees.alloc (h : Sees w B v size n xs) (hB : B ≤ w.heap.size) (o : Obj) : Sees (w.alloc o) B v size n xs := h.keep fun p hp => World.cell?_alloc_lt w o p (by omega)
theorem Sees.setCell (h : Sees w B v size n xs) {p : Addr} (hB : B ≤ p.block) (u : Value) : Sees (w.setCell p u) B v size n xs :=
  h.keep fun q hq => World.cell?_setCell_other w p q u (fun e => by subst e; omega)
theorem Sees.grown (h : Sees w B v size n xs) {row : Option Nat} (hg : w.grownBy w' row) (hB : B ≤ w.heap.size) (hr : ∀ g, row = some g → B ≤ g) : Sees w' B v size n xs :=
  h.keep fun p hp => World.cell?_of_block (hg.block p.block (by omega) (fun e => by have := hr _ e.symm; omega))
theorem Sees.of_own {base : Nat} {e : TypeId} (h : w.ownsRow base e size v n xs) : Sees w w.heap.size v size n xs := by
  refine ⟨h.1, ?_⟩
  rcases h.2 with ⟨rfl, rfl⟩ | ⟨g, cap, cur, rfl, hb, hh, hc, hm, hcur, htake⟩
  · exact ⟨none, 0, rfl, Nat.le_refl _, Nat.zero_le _, fun h => absurd h (by omega)⟩
  · refine ⟨_, cap, rfl, hc, hm, fun hn => ⟨g, 0, rfl, (Array.getElem?_eq_some_iff.1 hh).1, fun j u hu => ?_⟩⟩
    have h1 : j < n * size := by
      have := (List.getElem?_eq_some_iff.1 hu).1
      rw [h.1] at this; exact this
    rw [Nat.zero_add, h.cellAt j h1]; exact hu
/-- Where a cut begins: as the model has it (a cut at the capacity keeps the old address). -/
def cutA (A : Option Addr) (c l size : Nat) : Option Addr := if c = l then A else A.map (·.add (l * size))
theorem Sees.cut {A : Option Addr} {c l h' : Nat} (h : Sees w B (.slice A n c) size n xs) (hl : l ≤ h') (hh : h' ≤ n) :
    Sees w B (.slice (cutA A c l size) (h' - l) (c - l)) size (h' - l) ((xs.drop (l * size)).take ((h' - l) * size)) := by
  have hl0 := h.1
  obtain ⟨_, A', c', hv, h1, h2, h3⟩ := h
  injection hv with e1 e2 e3
  subst e1 e3
  refine ⟨?_, _, _, rfl, by omega, by unfold maxLen at *; omega, fun hn => ?_⟩
  · rw [List.length_take, List.length_drop, hl0]
    have : (h' - l) * size ≤ n * size - l * size := by rw [← Nat.sub_mul]; exact Nat.mul_le_mul_right _ (by omega)
    omega
  · obtain ⟨b, o, e, hb, hc⟩ := h3 (by omega)
    refine ⟨b, o + l * size, ?_, hb, fun j u hu => ?_⟩
    · unfold cutA
      rw [if_neg (by omega), e, Option.map_some, add_zero']
    · have hj : j < (h' - l) * size := by
        have := (List.getElem?_eq_some_iff.1 hu).1
        rw [List.length_take] at this; omega
      rw [List.getElem?_take, if_pos hj, List.getElem?_drop] at hu
      have := hc _ _ hu
      rw [← this, Nat.add_assoc]
end
section
variable {P : Program}
/-- The run of a cut, its address behind a name. -/
theorem run_cut (t : TypeId) (ht : P.underlying t = some (.slice (P.elem t))) (size : Nat) (hs : ∀ w, (sizeOf (P.elem t)).run P w = .ok size w) (A : Option Addr) (n c : Nat) (kl kh : IntKind) (l h : Int) (h0 : 0 ≤ l) (h1 : l ≤ h) (h2 : h ≤ c) (w : World) :
    (Instr.slice t (.slice A n c) (some (.int kl l)) (some (.int kh h)) none).run P w = .ok (.slice (cutA A c l.toNat size) (h.toNat - l.toNat) (c - l.toNat)) w := by
  rw [run_slice_lh w t A n c ht kl kh l h h0 h1 h2, hs]; rfl
theorem run_cut_from (t : TypeId) (ht : P.underlying t = some (.slice (P.elem t))) (size : Nat) (hs : ∀ w, (sizeOf (P.elem t)).run P w = .ok size w) (A : Option Addr) (n c : Nat) (kl : IntKind) (l : Int) (h0 : 0 ≤ l) (h1 : l ≤ n) (w : World) :
    (Instr.slice t (.slice A n c) (some (.int kl l)) none none).run P w = .ok (.slice (cutA A c l.toNat size) (n - l.toNat) (c - l.toNat)) w := by
  rw [run_slice_l w t A n c ht kl l h0 h1, hs]; rfl
theorem run_cut_to (t : TypeId) (ht : P.underlying t = some (.slice (P.elem t))) (size : Nat) (hs : ∀ w, (sizeOf (P.elem t)).run P w = .ok size w) (A : Option Addr) (n c : Nat) (kh : IntKind) (h : Int) (h0 : 0 ≤ h) (h2 : h ≤ c) (w : World) :
    (Instr.slice t (.slice A n c) none (some (.int kh h)) none).run P w = .ok (.slice (cutA A c 0 size) (h.toNat - 0) (c - 0)) w := by
  rw [run_slice_h w t A n c ht kh h h0 h2, hs]; rfl
/-- append onto a row of the call's own, the source whatever slice is seen. -/
theorem run_append_sees (w : World) (base : Nat) (t ty e : TypeId) (i : TypeInfo) (z : Value) (size bytes : Nat) (ht : P.underlying t = some (.slice e)) (hi : P.info? e = some i) (hz : i.zero = some z)
    (hsize : i.size = size) (hby : i.bytes = bytes) (hzs : z.cells.size = size) (hsz : 0 < size)
    (v : Value) (n : Nat) (xs : List Value) (hown : w.ownsRow base e size v n xs)
    (B : Nat) (u : Value) (m : Nat) (news : List Value) (hs : Sees w B u size m news) (h1 : ∀ u ∈ news, u.oneCell' = true)
    (h63 : n + m ≤ maxLen) (hbytes : (n + m) * bytes ≤ 140737488355328) (hbase : base ≤ w.heap.size) :
    ∃ v' w', (Builtin.append_ #[t, t] ty #[v, u]).run P w = .ok v' w' ∧ w'.ownsRow base e size v' (n + m) (xs ++ news) ∧ w.grownBy w' v.ownBlock ∧
      (v'.ownBlock = v.ownBlock ∨ v'.ownBlock = some w.heap.size) := by
  have hl := hs.1
  obtain ⟨_, A, c, rfl, hc1, hc2, h3⟩ := hs
  rcases Nat.eq_zero_or_pos m with h0 | h0
  · subst h0
    have hn : news = [] := List.eq_nil_of_length_eq_zero (by simpa using hl)
    subst hn
    rcases A with _ | ad
    · refine ⟨v, w, ?_, by simpa using hown, ⟨rfl, rfl, rfl, Nat.le_refl _, fun _ _ _ => rfl⟩, .inl rfl⟩
      rcases hown.2 with ⟨rfl, rfl⟩ | ⟨g, cap, cur, rfl, _, _, hnc, _⟩
      · simp [Builtin.append_, run_underlying ht, sizeOf, typeInfo, hi, Builtin.lenOf, Builtin.firstCells]
      · simp [Builtin.append_, run_underlying ht, sizeOf, typeInfo, hi, Builtin.lenOf, Builtin.firstCells, hnc, storeCells]
    · obtain ⟨v', w', hrun, h2, h3, _, h5⟩ := run_append_own_at (P := P) w base t ty e i z size bytes ht hi hz hsize hby hzs hsz v n xs hown ad 0 c [] (by simp) (by simp) (by simp) h63 hbytes hbase
      exact ⟨v', w', hrun, h2, h3, h5⟩
  · obtain ⟨b, o, rfl, hb, hc⟩ := h3 h0
    obtain ⟨v', w', hrun, h2, h3, _, h5⟩ := run_append_own_at (P := P) w base t ty e i z size bytes ht hi hz hsize hby hzs hsz v n xs hown ⟨b, o, none⟩ m c news hl (fun j u hu => by rw [add_zero']; exact hc j u hu) h1 h63 hbytes hbase
    exact ⟨v', w', hrun, h2, h3, h5⟩
theorem wp_append_sees {o : Oper} {a : Act} {w : World} {K : Act → World → Prop} {Q : Exit → Act → World → Prop} (s x : Operand) (t : TypeId)
    (ho : o.op = .call { callee := .builtin .append, args := #[s, x], argTypes := #[t, t] })
    (base : Nat) (e : TypeId) (i : TypeInfo) (z : Value) (size bytes : Nat) (ht : P.underlying t = some (.slice e)) (hi : P.info? e = some i) (hz : i.zero = some z)
    (hsize : i.size = size) (hby : i.bytes = bytes) (hzs : z.cells.size = size) (hsz : 0 < size)
    (v : Value) (n : Nat) (xs : List Value) (hs : a.eval s = v) (hown : w.ownsRow base e size v n xs)
    (B : Nat) (u : Value) (m : Nat) (news : List Value) (hx : a.eval x = u) (hr : Sees w B u size m news) (h1 : ∀ u ∈ news, u.oneCell' = true)
    (h63 : n + m ≤ maxLen) (hbytes : (n + m) * bytes ≤ 140737488355328) (hbase : base ≤ w.heap.size)
    (h : ∀ v' w', w'.ownsRow base e size v' (n + m) (xs ++ news) → w.grownBy w' v.ownBlock → (v'.ownBlock = v.ownBlock ∨ v'.ownBlock = some w.heap.size) → K (a.put o.dst v') w') : o.wp P a w K Q := by
  obtain ⟨v', w', hrun, h2, h3, h4⟩ := run_append_sees (P := P) w base t o.type e i z size bytes ht hi hz hsize hby hzs hsz v n xs hown B u m news hr h1 h63 hbytes hbase
  unfold Oper.wp execOp
  simp only [ho, resolve, invoke, builtin, Sem.run_bind, Sem.run_pure, Result.andThen_ok, List.map_toArray, List.map_cons, List.map_nil, hs, hx, hrun]
  exact h v' w' h2 h3 h4
theorem wpList_append_sees {ops : Array Oper} {rest : List Oper} {o : Oper} {a : Act} {w : World} {Q : Exit → Act → World → Prop} (hgd : Region.wanted o (yielded ops a.tmps) = true) (s x : Operand) (t : TypeId)
    (ho : o.op = .call { callee := .builtin .append, args := #[s, x], argTypes := #[t, t] })
    (base : Nat) (e : TypeId) (i : TypeInfo) (z : Value) (size bytes : Nat) (ht : P.underlying t = some (.slice e)) (hi : P.info? e = some i) (hz : i.zero = some z)
    (hsize : i.size = size) (hby : i.bytes = bytes) (hzs : z.cells.size = size) (hsz : 0 < size)
    (v : Value) (n : Nat) (xs : List Value) (hs : a.eval s = v) (hown : w.ownsRow base e size v n xs)
    (B : Nat) (u : Value) (m : Nat) (news : List Value) (hx : a.eval x = u) (hr : Sees w B u size m news) (h1 : ∀ u ∈ news, u.oneCell' = true)
    (h63 : n + m ≤ maxLen) (hbytes : (n + m) * bytes ≤ 140737488355328) (hbase : base ≤ w.heap.size)
    (h : ∀ v' w', w'.ownsRow base e size v' (n + m) (xs ++ news) → w.grownBy w' v.ownBlock → (v'.ownBlock = v.ownBlock ∨ v'.ownBlock = some w.heap.size) → wpList P ops Q rest (a.put o.dst v') w') : wpList P ops Q (o :: rest) a w :=
  BigFrame.wpList_want hgd fun _ hK => wp_append_sees s x t ho base e i z size bytes ht hi hz hsize hby hzs hsz v n xs hs hown B u m news hx hr h1 h63 hbytes hbase fun v' w' h2 h3 h4 => hK _ _ (h v' w' h2 h3 h4)
end
end
section
open Go.RowKit
theorem wp_fresh {P : Program} {code : Code} {Q : Exit → Act → World → Prop} {a : Act} {w : World} {o : Obj} (R : World → Prop) (h1 : R (w.alloc o)) (h2 : ∀ W, R W → Code.wp P code Q a W) : Code.wp P code Q a (w.alloc o) := h2 _ h1
theorem bgo {a b c : World} (h1 : Below a.heap.size a b) (h2 : Below b.heap.size b c) : Below a.heap.size a c := h1.trans (h2.mono h1.size)
theorem balloc (w : World) (o : Obj) : Below w.heap.size w (w.alloc o) := (Below.refl _ _).alloc (Nat.le_refl _) _
theorem bdrew (w : World) : Below w.heap.size w w.drew := (Below.refl _ _).drew
/-- Block g holds exactly these cells. -/
def Box (w : World) (g : Nat) (T : TypeId) (xs : List Value) : Prop := w.heap[g]? = some (.cells xs.toArray T)
theorem Box.new (w : World) (T : TypeId) (xs : List Value) : Box (w.alloc (.cells xs.toArray T)) w.heap.size T xs := heap_alloc_new w _
theorem Box.lt {w : World} {g : Nat} {T : TypeId} {xs : List Value} (h : Box w g T xs) : g < w.heap.size := (Array.getElem?_eq_some_iff.1 h).1
theorem Box.below {w w' : World} {g : Nat} {T : TypeId} {xs : List Value} (h : Box w g T xs) (hb : Below w.heap.size w w') : Box w' g T xs := (hb.block g h.lt).trans h
theorem Box.cell {w : World} {g : Nat} {T : TypeId} {xs : List Value} (h : Box w g T xs) (j : Nat) : w.cell? ⟨g, j, none⟩ = xs[j]? := block_cell h j
theorem Box.set {w : World} {g : Nat} {T : TypeId} {xs : List Value} (h : Box w g T xs) (j : Nat) (v : Value) : Box (w.setCell ⟨g, j, none⟩ v) g T (xs.set j v) := by
  have := set_block w g j v h
  simpa [Box] using this
theorem Box.frozen {w : World} {g : Nat} {T : TypeId} {xs : List Value} (h : Box w g T xs) (j : Nat) : w.frozen? ⟨g, j, none⟩ = false := frozen_of_row w g j _ _ h
/-- The cells of a list of bytes. -/
def vb (l : Bs) : List Value := l.map byV
theorem vb_len (l : Bs) : (vb l).length = l.length := by simp [vb]
theorem vb_get (l : Bs) (j : Nat) : (vb l)[j]? = l[j]?.map byV := by simp [vb]
theorem vb_append (a b : Bs) : vb (a ++ b) = vb a ++ vb b := by simp [vb]
theorem vb_one (l : Bs) : ∀ u ∈ vb l, u.oneCell' = true := by
  intro u hu
  obtain ⟨x, _, rfl⟩ := List.mem_map.1 hu
  rfl
theorem vb_rep (n : Nat) : List.replicate n (Value.int .u8 0) = vb (List.replicate n 0) := by simp [vb, byV]
theorem vb_set (l : Bs) (j : Nat) (x : UInt8) : (vb l).set j (byV x) = vb (l.set j x) := by simp [vb, List.map_set]
theorem byV_nat (n : Nat) : Value.int .u8 ((n : Int) % 256) = byV (UInt8.ofNat n) := by
  unfold byV
  simp
/-- The value shows these bytes. -/
def SeesB (w : World) (B : Nat) (v : Value) (l : Bs) : Prop := Sees w B v 1 l.length (vb l)
/-- The value is a row of the call's own with these bytes. -/
def OwnB (w : World) (base : Nat) (v : Value) (l : Bs) : Prop := w.ownsRow base 5 1 v l.length (vb l)
/-- The call returns these bytes in a row of its own, and changes nothing that was there. -/
def Gives (l : Bs) (w : World) (e : Ending) (w' : World) : Prop := ∃ v, e = .returned v ∧ OwnB w' w.heap.size v l ∧ Below w.heap.size w w'
theorem OwnB.sees {w : World} {base : Nat} {v : Value} {l : Bs} (h : OwnB w base v l) : SeesB w w.heap.size v l := Sees.of_own h
theorem OwnB.below {w w' : World} {base : Nat} {v : Value} {l : Bs} (h : OwnB w base v l) (hb : Below w.heap.size w w') : OwnB w' base v l := own_below h hb
theorem OwnB.mono {w : World} {base base' : Nat} {v : Value} {l : Bs} (h : OwnB w base v l) (hb : base' ≤ base) : OwnB w base' v l := by
  refine ⟨h.1, ?_⟩
  rcases h.2 with h | ⟨g, cap, cur, h1, h2, h3⟩
  · exact .inl h
  · exact .inr ⟨g, cap, cur, h1, by omega, h3⟩
section
variable {w w' : World} {B B' : Nat} {v : Value} {l : Bs}
theorem SeesB.nil (w : World) (B : Nat) : SeesB w B (.slice none 0 0) [] := Sees.nil w B 1
theorem SeesB.mk_ (h : SeesB w B v l) : ∃ A c, v = .slice A l.length c ∧ l.length ≤ c ∧ c ≤ maxLen := Sees.mk_ h
theorem SeesB.at_ {A : Option Addr} {n c : Nat} (h : SeesB w B (.slice A n c) l) (hn : 0 < l.length) : ∃ b o, A = some ⟨b, o, none⟩ ∧ b < B ∧ ∀ j, j < l.length → w.cell? ⟨b, o + j, none⟩ = some (byV (l.getD j 0)) := by
  obtain ⟨_, A', c', hv, h1, h2, h3⟩ := h
  injection hv with e1 e2 e3
  subst e1
  obtain ⟨b, o, e, hb, hc⟩ := h3 hn
  refine ⟨b, o, e, hb, fun j hj => hc j _ ?_⟩
  rw [vb_get, List.getElem?_eq_getElem hj, Option.map_some, List.getD_eq_getElem?_getD, List.getElem?_eq_getElem hj]
  rfl
theorem SeesB.below (h : SeesB w B v l) (hb : Below B w w') : SeesB w' B v l := Sees.below h hb
theorem SeesB.more (h : SeesB w B v l) (hB : B ≤ B') : SeesB w B' v l := Sees.more h hB
theorem SeesB.cut {A : Option Addr} {n c a b : Nat} (h : SeesB w B (.slice A n c) l) (hab : a ≤ b) (hb : b ≤ l.length) :
    SeesB w B (.slice (cutA A c a 1) (b - a) (c - a)) ((l.drop a).take (b - a)) := by
  have hn : n = l.length := by
    obtain ⟨_, A', c', hv, _⟩ := h
    injection hv
  subst hn
  have := Sees.cut (l := a) (h' := b) h hab hb
  rw [Nat.mul_one, Nat.mul_one] at this
  unfold SeesB
  rw [show ((l.drop a).take (b - a)).length = b - a from by rw [List.length_take, List.length_drop]; omega, show vb ((l.drop a).take (b - a)) = ((vb l).drop a).take (b - a) from by simp [vb, List.map_drop, List.map_take]]
  exact this
end
theorem putB_add (m k v : Nat) : putB (m + k) v = putB m (v / 256 ^ k) ++ putB k v := by
  induction k generalizing v with
  | zero => simp [putB]
  | succ k ih => rw [← Nat.add_assoc, putB, ih, putB, List.append_assoc, Nat.div_div_eq_div_mul, Nat.pow_succ, Nat.mul_comm 256]
theorem putB_zero (n : Nat) : putB n 0 = List.replicate n 0 := by
  induction n with
  | zero => rfl
  | succ n ih => rw [putB, ih, List.replicate_succ']; rfl
/-- A list with k bytes of a number at its end. -/
def tailB (n k v : Nat) : Bs := List.replicate (n - k) 0 ++ putB k v
theorem tailB_len (n k v : Nat) (h : k ≤ n) : (tailB n k v).length = n := by simp [tailB, putB_len]; omega
theorem tailB_step (n k v : Nat) (h : k < n) : (tailB n k v).set (n - 1 - k) (UInt8.ofNat (v / 256 ^ k)) = tailB n (k + 1) v := by
  unfold tailB
  obtain ⟨m, rfl⟩ : ∃ m, n = m + 1 + k := ⟨n - 1 - k, by omega⟩
  rw [show m + 1 + k - k = m + 1 from by omega, show m + 1 + k - 1 - k = m from by omega, show m + 1 + k - (k + 1) = m from by omega, Nat.add_comm k 1, putB_add 1 k, List.replicate_succ', List.append_assoc, List.set_append_right _ _ (by simp)]
  simp [putB]
theorem tailB_end (n k v : Nat) (h : k ≤ n) (h0 : k = n ∨ v / 256 ^ k = 0) : tailB n k v = putB n v := by
  unfold tailB
  rcases h0 with rfl | h0
  · simp
  · obtain ⟨m, rfl⟩ : ∃ m, n = m + k := ⟨n - k, by omega⟩
    rw [putB_add, h0, putB_zero, Nat.add_sub_cancel]
/-- A list of bytes as a string. -/
def strB (l : Bs) : ByteArray := ⟨l.toArray⟩
theorem strB_toList (l : Bs) : (strB l).toList = l := by
  rw [ByteArray.toList_eq]; rfl
/-- A string, taken out of a slice that shows these bytes. -/
theorem SeesB.string {w : World} {B : Nat} {A : Option Addr} {n c : Nat} {l : Bs} (h : SeesB w B (.slice A n c) l) :
    (convert 23 9 (.slice A n c)).run Tryz.prog w = .ok (.string (strB l)) w := by
  have hn : n = l.length := by
    obtain ⟨_, A', c', hv, _⟩ := h
    injection hv
  subst hn
  rcases Nat.eq_zero_or_pos l.length with h0 | h0
  · have : l = [] := List.eq_nil_of_length_eq_zero h0
    subst this
    exact Go.Proofs.run_convert_bytes_zero w 23 5 Tryz.underlying23 Tryz.underlying5 A c 9 Tryz.underlying9
  · obtain ⟨b, o, rfl, _, hc⟩ := h.at_ h0
    have := run_convert_bytes_arg (P := Tryz.prog) w 23 5 Tryz.underlying23 Tryz.underlying5 b o l.length c (l.map fun x => (x.toNat : Int)) (by simp) (fun i hi => by
      rw [hc i hi, byV]
      simp [List.getD_eq_getElem?_getD, List.getElem?_eq_getElem hi]) 9 Tryz.underlying9
    rw [this]
    simp [strOfNums, strB, List.map_map, Function.comp_def]
/-- The number in bytes, without an end. -/
def valB (l : Bs) : Nat := l.foldl (fun v x => v * 256 + x.toNat) 0
theorem foldl_val (l : Bs) (v : Nat) : l.foldl (fun v x => v * 256 + x.toNat) v = v * 256 ^ l.length + valB l := by
  unfold valB
  induction l generalizing v with
  | nil => simp
  | cons x l ih =>
    rw [List.foldl_cons, List.foldl_cons, ih, ih (0 * 256 + x.toNat), List.length_cons, Nat.pow_succ, Nat.add_mul, Nat.mul_assoc, Nat.mul_comm 256, Nat.zero_mul, Nat.zero_add, Nat.add_assoc]
theorem foldl_get (l : Bs) (v : Nat) : l.foldl (fun v x => (v * 256 + x.toNat) % 18446744073709551616) v % 18446744073709551616 = (v * 256 ^ l.length + valB l) % 18446744073709551616 := by
  rw [← foldl_val]
  induction l generalizing v with
  | nil => rfl
  | cons x l ih =>
    rw [List.foldl_cons, List.foldl_cons, ih, foldl_val, foldl_val, Nat.add_mod, Nat.mul_mod, Nat.mod_mod, ← Nat.mul_mod, ← Nat.add_mod]
theorem getB_lt (l : Bs) : getB l < 18446744073709551616 := by
  unfold getB
  rcases List.eq_nil_or_concat l with rfl | ⟨l, x, rfl⟩
  · decide
  · rw [List.concat_eq_append, List.foldl_append]; exact Nat.mod_lt _ (by decide)
theorem getB_val (l : Bs) : getB l = valB l % 18446744073709551616 := by
  have := foldl_get l 0
  rw [Nat.zero_mul, Nat.zero_add] at this
  rw [← this]
  exact (Nat.mod_eq_of_lt (getB_lt l)).symm
theorem getB_snoc (l : Bs) (x : UInt8) : getB (l ++ [x]) = (getB l * 256 + x.toNat) % 18446744073709551616 := by simp [getB]
theorem valB_append (a b : Bs) : valB (a ++ b) = valB a * 256 ^ b.length + valB b := by
  rw [← foldl_val]; simp [valB]
/-- Only the last eight bytes count. -/
theorem getB_last (l : Bs) : getB (l.drop (l.length - 8)) = getB l := by
  by_cases h : l.length ≤ 8
  · rw [Nat.sub_eq_zero_of_le h, List.drop_zero]
  · rw [getB_val, getB_val]
    conv => rhs; rw [← List.take_append_drop (l.length - 8) l, valB_append, List.length_drop, show l.length - (l.length - 8) = 8 from by omega]
    rw [show 256 ^ 8 = 18446744073709551616 from by decide, Nat.mul_comm, Nat.mul_add_mod]
theorem valB_put (n v : Nat) : valB (putB n v) = v % 256 ^ n := by
  induction n generalizing v with
  | zero => simp [putB, valB, Nat.mod_one]
  | succ n ih =>
    rw [putB, valB_append, ih]
    simp only [List.length_cons, List.length_nil, valB, List.foldl_cons, List.foldl_nil, Nat.zero_mul, Nat.zero_add, UInt8.toNat_ofNat', Nat.pow_one]
    rw [show 256 ^ (n + 1) = 256 * 256 ^ n from by rw [Nat.pow_succ, Nat.mul_comm], Nat.mod_mul (x := v) (a := 256) (b := 256 ^ n), show 2 ^ 8 = 256 from rfl, Nat.mul_comm 256]
    omega
/-- One step of Get, as the machine reckons it. -/
theorem get_step (v : Nat) (x : UInt8) : bits .or .u64 ((v : Int) * 256 % 18446744073709551616) (x.toNat : Int) = (((v * 256 + x.toNat) % 18446744073709551616 : Nat) : Int) := by
  have hx := x.toNat_lt
  rw [show (v : Int) * 256 % 18446744073709551616 = ((v * 256 % 18446744073709551616 : Nat) : Int) from by omega, Go.bits_or_u64_nat _ _ (Nat.mod_lt _ (by decide)) (by omega)]
  rw [show v * 256 % 18446744073709551616 = 2 ^ 8 * (v % 72057594037927936) from by omega, ← Nat.two_pow_add_eq_or_of_lt hx]
  omega
theorem get_step' (v : Nat) (x : UInt8) : bits .or .u64 (IntKind.u64.wrap ((v : Int) * 256)) (IntKind.u64.wrap (x.toNat : Int)) = (((v * 256 + x.toNat) % 18446744073709551616 : Nat) : Int) := by
  have hx := x.toNat_lt
  rw [IntKind.wrap_u64, IntKind.wrap_u64, show (x.toNat : Int) % 18446744073709551616 = (x.toNat : Int) from by omega]
  exact get_step v x
end
section
open Go.RowKit
set_option linter.unusedVariables false
attribute [local go_sem ↓] Go.wp_at_zero Go.wp_at_succ
theorem byte_info : (Tryz.prog.info? 5).map (fun i => (i.zero, i.size, i.bytes)) = some (some (.int .u8 0), 1, 1) := by kernel_rfl
theorem make_bytes (n : Nat) (hn : n ≤ 140737488355328) (w : World) : (Instr.makeSlice 23 (.int .i64 (n : Int)) (.int .i64 (n : Int))).run Tryz.prog w = .ok (.slice (some ⟨w.heap.size, 0, none⟩) n n) (w.alloc (.cells (vb (List.replicate n 0)).toArray 5)) := by
  obtain ⟨i, hi, hz, hs, hb⟩ := info_parts byte_info
  have h := run_make (P := Tryz.prog) w 23 5 i (.int .u8 0) Tryz.underlying23 hi hz .i64 .i64 n n (by omega) (by omega) (by rw [hb]; omega) (by omega)
  rw [h, hs]
  simp only [Int.toNat_natCast, Nat.mul_one]
  rw [← vb_rep, ← toList_madeCells_one]
  rfl
theorem own_made (w : World) (l : Bs) (hl : l.length ≤ maxLen) (base : Nat) (hb : base ≤ w.heap.size) : OwnB (w.alloc (.cells (vb l).toArray 5)) base (.slice (some ⟨w.heap.size, 0, none⟩) l.length l.length) l := by
  have h := World.ownsRow_lit (base := base) (e := 5) (size := 1) w (vb l).toArray l.length hb hl (by simp [vb_len])
  exact h
set_option maxRecDepth 100000 in
theorem put_any (v n : Nat) (hn : n ≤ 64) (hv : v < 18446744073709551616) (w : World) :
    Calls Tryz.prog 48 #[.int .u64 (v : Int), .int .i64 (n : Int)] w (Gives (putB n v) w) := by
  have hmk := make_bytes n (by omega)
  have n0 : ¬ ((n : Int) < 0) := by omega
  have n1 : ¬ ((64 : Int) < (n : Int)) := by omega
  go_enter Tryz.func48, Tryz.ntmps48
  go_wp2_with fail
  refine wp_fresh (fun W => OwnB W w.heap.size (.slice (some ⟨w.heap.size, 0, none⟩) n n) (tailB n 0 v) ∧ Below w.heap.size w W) ⟨?_, (Below.refl _ _).alloc (Nat.le_refl _) _⟩ ?_
  · have := own_made w (List.replicate n 0) (by rw [List.length_replicate]; unfold maxLen; omega) w.heap.size (Nat.le_refl _)
    rw [List.length_replicate] at this
    simpa [tailB, putB] using this
  rintro W0 ⟨hW, hbw⟩
  clear hmk
  go_loopw [0, 6] (fun x i wr => ∃ k : Nat, k ≤ n ∧ x = .int .u64 ((v / 256 ^ k : Nat) : Int) ∧ i = .int .i64 ((n : Int) - 1 - k) ∧ OwnB wr w.heap.size (.slice (some ⟨w.heap.size, 0, none⟩) n n) (tailB n k v) ∧ Below w.heap.size w wr) (fun _ i _ => (intOf i + 1).toNat)
  case atStart => exact ⟨0, by omega, by simp, by go_num, hW, hbw⟩
  case round =>
    clear hW hbw
    obtain ⟨k, hk, rfl, rfl, hW, hbw⟩ := hrel
    have hlen := tailB_len n k v hk
    have hstep := tailB_step n k v
    have hend := tailB_end n k v hk
    have hnx : v / 256 ^ (k + 1) = v / 256 ^ k / 256 := by rw [Nat.pow_succ, Nat.div_div_eq_div_mul]
    have hu : v / 256 ^ k < 18446744073709551616 := Nat.lt_of_le_of_lt (Nat.div_le_self _ _) hv
    have HX := Lib.hid hnx
    have HS := Lib.hid hstep
    have HE := Lib.hid hend
    clear hnx hstep hend
    generalize v / 256 ^ k = u at *
    generalize hl : tailB n k v = l at *
    by_cases hk2 : k < n
    · by_cases h0 : u = 0
      · subst h0
        have i0 : (0 : Int) ≤ (n : Int) - 1 - k := by omega
        have he := Lib.hid (HE.out (.inr rfl))
        clear HE
        go_wp2_with fail
        go_ret
        refine ⟨.slice (some ⟨w.heap.size, 0, none⟩) n n, rfl, ?_, hbw⟩
        rw [← he.out]; exact hW
      · obtain ⟨j, hj⟩ : ∃ j : Nat, (n : Int) - 1 - k = (j : Int) := ⟨n - 1 - k, by omega⟩
        have hj2 : n - 1 - k = j := by omega
        rw [hj]
        have i0 : (0 : Int) ≤ (j : Int) := by omega
        have i1 : (j : Int) < (n : Int) := by omega
        have u0 : (0 : Int) < (u : Int) := by omega
        unfold OwnB at hW
        rw [hlen] at hW
        have hc : ∃ z : UInt8, wr.cell? ⟨w.heap.size, j, none⟩ = some (.int .u8 (z.toNat : Int)) := by
          have := hW.cellAt j (by omega)
          rw [vb_get, List.getElem?_eq_getElem (by omega), Option.map_some] at this
          exact ⟨_, this⟩
        obtain ⟨z, hc⟩ := hc
        have HL := Lib.hid hlen
        have HW := Lib.hid hW
        have HJ := Lib.hid hj2
        clear hj hl hlen hW hj2 hu n0 n1 hv h0
        have hf := HW.out.frozenAt j
        go_wp2_with fail
        go_roundw
        case rel =>
          refine ⟨k + 1, by omega, congrArg (Value.int .u64) (by rw [HX.out]; omega), congrArg (Value.int .i64) (by have := HJ.out; omega), ?_, hbw.setCell (Nat.le_refl _) _⟩
          rw [byV_nat, ← HS.out hk2, HJ.out]
          have h := (HW.out.stored j (byV (UInt8.ofNat u))).1
          rw [vb_set] at h
          unfold OwnB
          rw [List.length_set, HL.out]
          exact h
        case measure => simp [intOf]
    · obtain rfl : k = n := by omega
      have i0 : (k : Int) - 1 - k < 0 := by omega
      have he := Lib.hid (HE.out (.inl rfl))
      clear HE
      go_wp2_with fail
      go_ret
      refine ⟨.slice (some ⟨w.heap.size, 0, none⟩) k k, rfl, ?_, hbw⟩
      rw [← he.out]; exact hW
set_option maxRecDepth 100000 in
theorem rput_any (v n : Nat) (hn : n ≤ 64) (hv : v < 18446744073709551616) (w : World) :
    Calls Tryz.prog 15 #[.int .u64 (v : Int), .int .i64 (n : Int)] w (Gives (putB n v) w) := by
  have hmk := make_bytes n (by omega)
  have n0 : ¬ ((n : Int) < 0) := by omega
  have n1 : ¬ ((64 : Int) < (n : Int)) := by omega
  go_enter Tryz.func15, Tryz.ntmps15
  go_wp2_with fail
  refine wp_fresh (fun W => OwnB W w.heap.size (.slice (some ⟨w.heap.size, 0, none⟩) n n) (tailB n 0 v) ∧ Below w.heap.size w W) ⟨?_, (Below.refl _ _).alloc (Nat.le_refl _) _⟩ ?_
  · have := own_made w (List.replicate n 0) (by rw [List.length_replicate]; unfold maxLen; omega) w.heap.size (Nat.le_refl _)
    rw [List.length_replicate] at this
    simpa [tailB, putB] using this
  rintro W0 ⟨hW, hbw⟩
  clear hmk
  go_loopw [0, 6] (fun x i wr => ∃ k : Nat, k ≤ n ∧ x = .int .u64 ((v / 256 ^ k : Nat) : Int) ∧ i = .int .i64 ((n : Int) - 1 - k) ∧ OwnB wr w.heap.size (.slice (some ⟨w.heap.size, 0, none⟩) n n) (tailB n k v) ∧ Below w.heap.size w wr) (fun _ i _ => (intOf i + 1).toNat)
  case atStart => exact ⟨0, by omega, by simp, by go_num, hW, hbw⟩
  case round =>
    clear hW hbw
    obtain ⟨k, hk, rfl, rfl, hW, hbw⟩ := hrel
    have hlen := tailB_len n k v hk
    have hstep := tailB_step n k v
    have hend := tailB_end n k v hk
    have hnx : v / 256 ^ (k + 1) = v / 256 ^ k / 256 := by rw [Nat.pow_succ, Nat.div_div_eq_div_mul]
    have hu : v / 256 ^ k < 18446744073709551616 := Nat.lt_of_le_of_lt (Nat.div_le_self _ _) hv
    have HX := Lib.hid hnx
    have HS := Lib.hid hstep
    have HE := Lib.hid hend
    clear hnx hstep hend
    generalize v / 256 ^ k = u at *
    generalize hl : tailB n k v = l at *
    by_cases hk2 : k < n
    · obtain ⟨j, hj⟩ : ∃ j : Nat, (n : Int) - 1 - k = (j : Int) := ⟨n - 1 - k, by omega⟩
      have hj2 : n - 1 - k = j := by omega
      rw [hj]
      have i0 : (0 : Int) ≤ (j : Int) := by omega
      have i1 : (j : Int) < (n : Int) := by omega
      unfold OwnB at hW
      rw [hlen] at hW
      have hc : ∃ z : UInt8, wr.cell? ⟨w.heap.size, j, none⟩ = some (.int .u8 (z.toNat : Int)) := by
        have := hW.cellAt j (by omega)
        rw [vb_get, List.getElem?_eq_getElem (by omega), Option.map_some] at this
        exact ⟨_, this⟩
      obtain ⟨z, hc⟩ := hc
      have HL := Lib.hid hlen
      have HW := Lib.hid hW
      have HJ := Lib.hid hj2
      clear hj hl hlen hW hj2 hu n0 n1 hv
      have hf := HW.out.frozenAt j
      go_wp2_with fail
      go_roundw
      case rel =>
        refine ⟨k + 1, by omega, congrArg (Value.int .u64) (by rw [HX.out]; omega), congrArg (Value.int .i64) (by have := HJ.out; omega), ?_, hbw.setCell (Nat.le_refl _) _⟩
        rw [byV_nat, ← HS.out hk2, HJ.out]
        have h := (HW.out.stored j (byV (UInt8.ofNat u))).1
        rw [vb_set] at h
        unfold OwnB
        rw [List.length_set, HL.out]
        exact h
      case measure => simp [intOf]
    · obtain rfl : k = n := by omega
      have i0 : (k : Int) - 1 - k < 0 := by omega
      have he := Lib.hid (HE.out (.inl rfl))
      clear HE
      go_wp2_with fail
      go_ret
      refine ⟨.slice (some ⟨w.heap.size, 0, none⟩) k k, rfl, ?_, hbw⟩
      rw [← he.out]; exact hW
theorem byte_size (w : World) : (sizeOf 5).run Tryz.prog w = .ok 1 w := by kernel_rfl
set_option maxRecDepth 100000 in
theorem get_any (B : Nat) (u : Value) (l : Bs) (w : World) (hu : SeesB w B u l) :
    Calls Tryz.prog 85 #[u] w fun e w' => e = .returned (.int .u64 (getB l : Int)) ∧ w' = w := by
  obtain ⟨A, c, rfl, hc1, hc2⟩ := hu.mk_
  have hm : l.length ≤ 9223372036854775807 := by unfold maxLen at hc2; omega
  have hcut := SeesB.cut (a := l.length - 8) (b := l.length) hu (by omega) (Nat.le_refl _)
  have hrun := run_cut_from (P := Tryz.prog) 23 Tryz.underlying23 1 byte_size A l.length c .i64 (max 0 ((l.length : Int) - 8)) (by omega) (by omega)
  rw [show (max 0 ((l.length : Int) - 8)).toNat = l.length - 8 from by omega] at hrun
  rw [List.take_of_length_le (by rw [List.length_drop]; omega)] at hcut
  have hd : (l.drop (l.length - 8)).length = l.length - (l.length - 8) := List.length_drop
  have hlast := Lib.hid (getB_last l)
  have hm2 : (l.drop (l.length - 8)).length ≤ 9223372036854775807 := by omega
  generalize cutA A c (l.length - 8) 1 = A2 at *
  generalize c - (l.length - 8) = c2 at *
  generalize l.drop (l.length - 8) = l2 at *
  rw [← hd] at hrun hcut
  clear hd hu
  go_enter Tryz.func85, Tryz.ntmps85
  go_wp2_with fail
  go_loopw [3, 5, 13] (fun x _ i wr => ∃ k : Nat, k ≤ l2.length ∧ x = .int .u64 (getB (l2.take k) : Int) ∧ i = .int .i64 k ∧ wr = w) (fun _ _ i _ => l2.length - (intOf i).toNat)
  case atStart => exact ⟨0, by omega, rfl, rfl, rfl⟩
  case round =>
    obtain ⟨k, hk, rfl, rfl, rfl⟩ := hrel
    have hnext : k < l2.length → getB (l2.take (k + 1)) = (getB (l2.take k) * 256 + (l2.getD k 0).toNat) % 18446744073709551616 := fun h => by
      rw [List.take_succ_eq_append_getElem h, getB_snoc, List.getD_eq_getElem?_getD, List.getElem?_eq_getElem h]; rfl
    have hall : ¬ k < l2.length → getB (l2.take k) = getB l2 := fun h => by rw [List.take_of_length_le (by omega)]
    have HN := Lib.hid hnext
    have HA := Lib.hid hall
    clear hnext hall
    generalize getB (l2.take k) = v at *
    by_cases hlt : k < l2.length
    · obtain ⟨b, o, rfl, hb, hcell⟩ := hcut.at_ (by omega)
      have x0 := hcell k hlt
      have hst := Lib.hid (get_step' v (l2.getD k 0))
      have hn := HN.out hlt
      have HN2 := Lib.hid hn
      clear hn HN hrun
      unfold byV at x0
      generalize l2.getD k 0 = x at x0 hst HN2
      clear hcell hcut
      have i0 : (0 : Int) ≤ (k : Int) := by omega
      have i1 : (k : Int) < (l2.length : Int) := by omega
      go_wp2_with fail
      go_roundw
      case rel => exact ⟨k + 1, by omega, by rw [hst.out, HN2.out], by go_num, trivial⟩
      case measure => simp [intOf]; omega
    · have he := Lib.hid (HA.out hlt)
      go_wp2_with fail
      go_ret
      exact ⟨ret_int (by rw [he.out, hlast.out]), rfl⟩
end
section
open Go.RowKit
set_option linter.unusedVariables false
attribute [local go_sem ↓] Go.wp_at_zero Go.wp_at_succ
theorem zeroCells_size (n : Nat) : (Builtin.zeroCells (Value.int .u8 0).cells n).size = n := by simp [Builtin.zeroCells, Value.cells]
set_option maxRecDepth 100000 in
theorem grow_any (n : Nat) (hn : n ≤ 140737488355328) (w : World) :
    Calls Tryz.prog 115 #[.slice none 0 0, .int .i64 (n : Int)] w (Gives [] w) := by
  obtain ⟨i, hi, hz, hs, hb⟩ := info_parts byte_info
  have n0 : ¬ ((n : Int) < 0) := by omega
  go_enter Tryz.func115, Tryz.ntmps115
  by_cases h0 : n = 0
  · subst h0
    go_wp2_with fail
    go_ret
    exact ⟨_, rfl, World.ownsRow_nil w _ _ _, Below.refl _ _⟩
  · have h1 : (0 : Int) < (n : Int) := by omega
    have hr := Lib.run_append_nil_zeros (P := Tryz.prog) w 23 3 23 5 i (.int .u8 0) .i64 .i64 Tryz.underlying23 Tryz.underlying3 hi hz n (by omega) (by omega) (by omega) (by rw [hb]; omega)
    go_wp2_with (at_builtin; refine Lib.wpList_append_run _ rfl _ _ _ _ rfl _ _ rfl rfl _ _ hr ?_)
    go_ret
    refine ⟨.slice (some ⟨w.heap.size, 0, none⟩) 0 (grownCap w n 0 5), rfl, ?_, ((Below.refl _ _).alloc (Nat.le_refl _) _).drew⟩
    have hg := grownCap_ge w n 0 5
    exact (World.ownsRow_made (base := w.heap.size) (e := 5) (size := 1) w _ (grownCap w n 0 5) (Nat.le_refl _) (grownCap_le_maxLen w n 0 5 (by unfold maxLen; omega)) (by
      have h1 := zeroCells_size n
      have h2 := zeroCells_size (grownCap w n 0 5 - n)
      rw [Array.size_append]
      simp only [Value.cells] at h1 h2 ⊢
      omega)).drew
theorem below_of_grown {w w' : World} {base : Nat} {v : Value} {l : Bs} (h : OwnB w base v l) (hg : w.grownBy w' v.ownBlock) (hb : base ≤ w.heap.size) : Below base w w' := by
  refine ⟨hg.os, hg.tape, hg.output, hg.size, fun k hk => hg.block k (by omega) (fun e => ?_)⟩
  have := (h.lt k e.symm).1
  omega
/-- append of bytes onto a row of the call's own, the source whatever slice is seen. -/
theorem wpList_app {ops : Array Oper} {rest : List Oper} {o : Oper} {a : Act} {w : World} {Q : Exit → Act → World → Prop} (hgd : Region.wanted o (yielded ops a.tmps) = true) (s x : Operand)
    (ho : o.op = .call { callee := .builtin .append, args := #[s, x], argTypes := #[23, 23] })
    (base : Nat) (v : Value) (l : Bs) (hs : a.eval s = v) (hown : OwnB w base v l) (B : Nat) (u : Value) (m : Bs) (hx : a.eval x = u) (hr : SeesB w B u m)
    (hlen : l.length + m.length ≤ 140737488355328) (hbase : base ≤ w.heap.size)
    (h : ∀ v' w', OwnB w' base v' (l ++ m) → Below base w w' → wpList Tryz.prog ops Q rest (a.put o.dst v') w') : wpList Tryz.prog ops Q (o :: rest) a w := by
  obtain ⟨i, hi, hz, hsz, hby⟩ := info_parts byte_info
  refine wpList_append_sees hgd s x 23 ho base 5 i (.int .u8 0) 1 1 Tryz.underlying23 hi hz hsz hby rfl (by omega) v l.length (vb l) hs hown B u m.length (vb m) hx hr (vb_one m) (by unfold maxLen; omega) (by omega) hbase ?_
  intro v' w' h1 h2 h3
  refine h v' w' ?_ (below_of_grown hown h2 hbase)
  unfold OwnB
  rw [vb_append, List.length_append]
  exact h1
/-- The value shows these lists of bytes. -/
def SeesL (w : World) (B : Nat) (u : Value) (ls : List Bs) : Prop := ∃ vs : List Value, Sees w B u 1 ls.length vs ∧ ∀ k, k < ls.length → ∃ v, vs[k]? = some v ∧ SeesB w B v (ls.getD k [])
theorem SeesL.mk_ {w : World} {B : Nat} {u : Value} {ls : List Bs} (h : SeesL w B u ls) : ∃ A c, u = .slice A ls.length c ∧ ls.length ≤ c ∧ c ≤ maxLen := by
  obtain ⟨vs, h, _⟩ := h
  exact h.mk_
theorem SeesL.at_ {w : World} {B : Nat} {A : Option Addr} {n c : Nat} {ls : List Bs} (h : SeesL w B (.slice A n c) ls) (hn : 0 < ls.length) :
    ∃ b o, A = some ⟨b, o, none⟩ ∧ b < B ∧ ∀ k, k < ls.length → ∃ A' c', w.cell? ⟨b, o + k, none⟩ = some (.slice A' (ls.getD k []).length c') ∧ (ls.getD k []).length ≤ c' ∧ c' ≤ maxLen ∧ SeesB w B (.slice A' (ls.getD k []).length c') (ls.getD k []) := by
  obtain ⟨vs, hs, hv⟩ := h
  have hs' := hs
  obtain ⟨_, A', c', e, h1, h2, h3⟩ := hs
  injection e with e1 e2 e3
  subst e1 e2 e3
  obtain ⟨b, o, e, hb, hc⟩ := h3 hn
  refine ⟨b, o, e, hb, fun k hk => ?_⟩
  obtain ⟨v, hv1, hv2⟩ := hv k hk
  obtain ⟨A2, c2, rfl, g1, g2⟩ := hv2.mk_
  exact ⟨A2, c2, hc k _ hv1, g1, g2, hv2⟩
theorem SeesL.below {w w' : World} {B : Nat} {u : Value} {ls : List Bs} (h : SeesL w B u ls) (hb : Below B w w') : SeesL w' B u ls := by
  obtain ⟨vs, hs, hv⟩ := h
  exact ⟨vs, hs.below hb, fun k hk => by obtain ⟨v, h1, h2⟩ := hv k hk; exact ⟨v, h1, h2.below hb⟩⟩
/-- The length of the first k lists. -/
def sumL (ls : List Bs) (k : Nat) : Nat := (ls.take k).flatten.length
theorem flat_step (ls : List Bs) (k : Nat) (h : k < ls.length) : (ls.take (k + 1)).flatten = (ls.take k).flatten ++ ls.getD k [] := by
  rw [List.take_succ_eq_append_getElem h, List.flatten_append, List.getD_eq_getElem?_getD, List.getElem?_eq_getElem h]
  simp
theorem flat_le (ls : List Bs) (k : Nat) : (ls.take k).flatten.length ≤ ls.flatten.length := by
  conv => rhs; rw [← List.take_append_drop k ls, List.flatten_append, List.length_append]
  omega
theorem slice_size (w : World) : (sizeOf 23).run Tryz.prog w = .ok 1 w := by kernel_rfl
set_option maxRecDepth 100000 in
theorem rjoin_any (B : Nat) (u : Value) (ls : List Bs) (w : World) (hu : SeesL w B u ls) (hB : B ≤ w.heap.size) (hlen : ls.flatten.length ≤ 1099511627776) :
    Calls Tryz.prog 14 #[u] w (Gives ls.flatten w) := by
  obtain ⟨A, c, rfl, hc1, hc2⟩ := hu.mk_
  have hm : ls.length ≤ 9223372036854775807 := by unfold maxLen at hc2; omega
  obtain ⟨i, hi, hz, hs, hby⟩ := info_parts byte_info
  go_enter Tryz.func14, Tryz.ntmps14
  go_wp2_with fail
  refine wp_fresh (fun W => OwnB W w.heap.size (.slice (some ⟨w.heap.size, 0, none⟩) 0 0) [] ∧ Below w.heap.size w W) ⟨own_made w [] (Nat.zero_le _) _ (Nat.le_refl _), (Below.refl _ _).alloc (Nat.le_refl _) _⟩ ?_
  rintro W0 ⟨hW, hbw⟩
  go_loopw [3, 4] (fun r t wr => ∃ k : Nat, k ≤ ls.length ∧ t = .int .i64 k ∧ OwnB wr w.heap.size r (ls.take k).flatten ∧ Below w.heap.size w wr) (fun _ t _ => ls.length - (intOf t).toNat)
  case atStart => exact ⟨0, by omega, rfl, hW, hbw⟩
  case round =>
    clear hW hbw
    obtain ⟨k, hk, rfl, hW, hbw⟩ := hrel
    have hW := Lib.hid hW
    have hbw := Lib.hid hbw
    by_cases hlt : k < ls.length
    · obtain ⟨b, o, rfl, hb, hcell⟩ := hu.at_ (by omega)
      obtain ⟨A', c', hc, g1, g2, hsee⟩ := hcell k hlt
      have x0 := (hbw.out.cell (p := ⟨b, o + k, none⟩) (by dsimp only; omega)).trans hc
      have hsee2 := Lib.hid (hsee.below (hbw.out.mono hB))
      have hst := Lib.hid (flat_step ls k hlt)
      have hle := flat_le ls (k + 1)
      rw [hst.out, List.length_append] at hle
      generalize ls.getD k [] = m at *
      clear hc hcell hu hsee
      have i0 : (0 : Int) ≤ (k : Int) := by omega
      have i1 : (k : Int) < (ls.length : Int) := by omega
      go_wp2_with (at_builtin; refine wpList_app (by rfl) _ _ rfl w.heap.size _ _ rfl hW.out B _ m rfl hsee2.out (by omega) hbw.out.size ?_)
      intro v' w' hW2 hb2
      have hW2 := Lib.hid hW2
      have hb2 := Lib.hid hb2
      go_wp2_with fail
      go_roundw
      case rel => exact ⟨k + 1, by omega, by go_num, by rw [hst.out]; exact hW2.out, hbw.out.trans hb2.out⟩
      case measure => simp [intOf]; omega
    · have he : (ls.take k).flatten = ls.flatten := by rw [List.take_of_length_le (by omega)]
      rw [he] at hW
      go_wp2_with fail
      go_ret
      exact ⟨_, rfl, hW.out, hbw.out⟩
theorem sum_step (ls : List Bs) (k : Nat) (h : k < ls.length) : sumL ls (k + 1) = sumL ls k + (ls.getD k []).length := by
  unfold sumL; rw [flat_step ls k h, List.length_append]
set_option maxRecDepth 100000 in
theorem concat_any (B : Nat) (u : Value) (ls : List Bs) (w : World) (hu : SeesL w B u ls) (hB : B ≤ w.heap.size) (hlen : ls.flatten.length ≤ 1099511627776) :
    Calls Tryz.prog 82 #[u] w (Gives ls.flatten w) := by
  obtain ⟨A, c, rfl, hc1, hc2⟩ := hu.mk_
  have hm : ls.length ≤ 9223372036854775807 := by unfold maxLen at hc2; omega
  go_enter Tryz.func82, Tryz.ntmps82
  go_wp2_with fail
  go_loopw [3, 5, 11] (fun s _ t wr => ∃ k : Nat, k ≤ ls.length ∧ s = .int .i64 (sumL ls k : Int) ∧ t = .int .i64 k ∧ wr = w) (fun _ _ t _ => ls.length - (intOf t).toNat)
  case atStart => exact ⟨0, by omega, rfl, rfl, rfl⟩
  case round =>
    obtain ⟨k, hk, rfl, rfl, rfl⟩ := hrel
    by_cases hlt : k < ls.length
    · obtain ⟨b, o, rfl, hb, hcell⟩ := hu.at_ (by omega)
      obtain ⟨A', c', hc, g1, g2, hsee⟩ := hcell k hlt
      have hst := Lib.hid (sum_step ls k hlt)
      have hle := flat_le ls (k + 1)
      have hd : (ls.take (k + 1)).flatten.length = sumL ls (k + 1) := rfl
      rw [hd, hst.out] at hle
      generalize sumL ls k = s at *
      generalize ls.getD k [] = m at *
      clear hcell hu hsee hd
      have i0 : (0 : Int) ≤ (k : Int) := by omega
      have i1 : (k : Int) < (ls.length : Int) := by omega
      have i2 : ¬ ((s : Int) + (m.length : Int) < 0) := by omega
      go_wp2_with fail
      go_roundw
      case rel => exact ⟨k + 1, by omega, by rw [hst.out]; rfl, by go_num, trivial⟩
      case measure => simp [intOf]; omega
    · obtain ⟨s, hs⟩ : ∃ s, sumL ls k = s := ⟨_, rfl⟩
      have hs2 : s ≤ 1099511627776 := by rw [← hs]; exact Nat.le_trans (flat_le ls k) hlen
      rw [hs]
      have hu' := Lib.hid hu
      have hB' := Lib.hid hB
      clear hu hB
      go_wp2_with (go_at_call 115; refine (grow_any s (by omega) _).mono ?_; rintro e w' ⟨v, rfl, hW, hbw⟩)
      have hW := Lib.hid hW
      have hbw := Lib.hid hbw
      rename_i kk _ _
      obtain ⟨w, rfl⟩ : ∃ w0 : World, w0 = wr := ⟨_, rfl⟩
      go_loopw [6, 8, 27] (fun r _ t wr => ∃ k : Nat, k ≤ ls.length ∧ t = .int .i64 k ∧ Hid (OwnB wr w.heap.size r (ls.take k).flatten) ∧ Hid (Below w.heap.size w wr)) (fun _ _ t _ => ls.length - (intOf t).toNat)
      case atStart => exact ⟨0, by omega, rfl, hW, hbw⟩
      case round =>
        clear hW hbw
        obtain ⟨k, hk, rfl, hW, hbw⟩ := hrel
        by_cases hlt : k < ls.length
        · obtain ⟨b, o, rfl, hb, hcell⟩ := hu'.out.at_ (by omega)
          obtain ⟨A', c', hc, g1, g2, hsee⟩ := hcell k hlt
          have hb' : b < w.heap.size := Nat.lt_of_lt_of_le hb hB'.out
          have x0 := (hbw.out.cell (p := ⟨b, o + k, none⟩) hb').trans hc
          have hsee2 := Lib.hid (hsee.below (hbw.out.mono hB'.out))
          have hst := Lib.hid (flat_step ls k hlt)
          have hle := flat_le ls (k + 1)
          rw [hst.out, List.length_append] at hle
          generalize ls.getD k [] = m at *
          clear hc hcell hu' hsee
          have i0 : (0 : Int) ≤ (k : Int) := by omega
          have i1 : (k : Int) < (ls.length : Int) := by omega
          go_wp2_with (at_builtin; refine wpList_app (by rfl) _ _ rfl w.heap.size _ _ rfl hW.out B _ m rfl hsee2.out (by omega) hbw.out.size ?_)
          intro v' w' hW2 hb2
          have hW2 := Lib.hid hW2
          have hb2 := Lib.hid hb2
          go_wp2_with fail
          go_roundw
          case rel => exact ⟨k + 1, by omega, by go_num, by rw [hst.out]; exact hW2.out, hbw.out.trans hb2.out⟩
          case measure => simp [intOf]; omega
        · have he : (ls.take k).flatten = ls.flatten := by rw [List.take_of_length_le (by omega)]
          rw [he] at hW
          go_wp2_with fail
          go_ret
          exact ⟨_, rfl, hW.out, hbw.out⟩
theorem join_any (B : Nat) (u : Value) (ls : List Bs) (w : World) (hu : SeesL w B u ls) (hB : B ≤ w.heap.size) (hlen : ls.flatten.length ≤ 1099511627776) :
    Calls Tryz.prog 45 #[u] w (Gives ls.flatten w) := by
  go_enter Tryz.func45, Tryz.ntmps45
  go_wp2_with (go_at_call 82; refine (concat_any B u ls _ hu hB hlen).mono ?_; rintro e w' ⟨v, rfl, hW, hbw⟩)
  go_ret
  exact ⟨_, rfl, hW, hbw⟩
end
section
open Go.RowKit
def vT (t : Int) : Bool := decide (-1152921504606846976 ≤ t ∧ t ≤ 1152921504606846976)
def vS (lo hi : Int) : Bool := decide (-1152921504606846976 ≤ lo ∧ hi ≤ 1152921504606846976 ∧ lo ≤ hi)
theorem vS_eq (lo hi : Int) : vS lo hi = (vT lo && vT hi && decide (lo ≤ hi)) := by
  unfold vS vT; rw [Bool.eq_iff_iff]; simp; omega
theorem validt_any (t : Int) (w : World) :
    Calls Tryz.prog 70 #[.int .i64 t] w fun e w' => e = .returned (.bool (vT t)) ∧ w = w' := by
  by_cases h1 : -1152921504606846976 ≤ t <;> by_cases h2 : t ≤ 1152921504606846976
  all_goals
    go_enter Tryz.func70, Tryz.ntmps70
    go_wp2
    go_ret
    exact ⟨ret_bool (by simp [vT, *]; try omega), rfl⟩
theorem rvalidt_any (t : Int) (w : World) :
    Calls Tryz.prog 62 #[.int .i64 t] w fun e w' => e = .returned (.bool (vT t)) ∧ w = w' := by
  by_cases h1 : -1152921504606846976 ≤ t <;> by_cases h2 : t ≤ 1152921504606846976
  all_goals
    go_enter Tryz.func62, Tryz.ntmps62
    go_wp2
    go_ret
    exact ⟨ret_bool (by simp [vT, *]; try omega), rfl⟩
theorem valid_any (lo hi : Int) (w : World) :
    Calls Tryz.prog 38 #[.agg #[.int .i64 lo, .int .i64 hi]] w fun e w' => e = .returned (.bool (vS lo hi)) ∧ Below w.heap.size w w' := by
  have e1 := vS_eq lo hi
  by_cases h1 : vT lo = true <;> by_cases h2 : vT hi = true
  all_goals
    go_enter Tryz.func38, Tryz.ntmps38
    go_wp2_with (go_at_call 70; refine (validt_any _ _).mono ?_; rintro e w' ⟨rfl, rfl⟩)
    go_ret
    exact ⟨ret_bool (by rw [e1]; simp [*]), (Below.refl _ _).alloc (Nat.le_refl _) _⟩
theorem rvalid_any (lo hi : Int) (w : World) :
    Calls Tryz.prog 29 #[.agg #[.int .i64 lo, .int .i64 hi]] w fun e w' => e = .returned (.bool (vS lo hi)) ∧ Below w.heap.size w w' := by
  have e1 := vS_eq lo hi
  by_cases h1 : vT lo = true <;> by_cases h2 : vT hi = true
  all_goals
    go_enter Tryz.func29, Tryz.ntmps29
    go_wp2_with (go_at_call 62; refine (rvalidt_any _ _).mono ?_; rintro e w' ⟨rfl, rfl⟩)
    go_ret
    exact ⟨ret_bool (by rw [e1]; simp [*]), (Below.refl _ _).alloc (Nat.le_refl _) _⟩
end
section
open Go.RowKit
set_option linter.unusedVariables false
attribute [local go_sem ↓] Go.wp_at_zero Go.wp_at_succ
/-- Values and lists of bytes, each seen. -/
def SeesAll (w : World) (B : Nat) : List Value → List Bs → Prop
  | [], [] => True
  | v :: vs, l :: ls => SeesB w B v l ∧ SeesAll w B vs ls
  | _, _ => False
theorem SeesAll.at_ {w : World} {B : Nat} : ∀ {vs : List Value} {ls : List Bs}, SeesAll w B vs ls → vs.length = ls.length ∧ ∀ k, k < ls.length → ∃ v, vs[k]? = some v ∧ SeesB w B v (ls.getD k [])
  | [], [], _ => ⟨rfl, fun k hk => absurd hk (by simp)⟩
  | v :: vs, l :: ls, h => by
    obtain ⟨h1, h2⟩ := h.2.at_
    refine ⟨by simp [h1], fun k hk => ?_⟩
    cases k with
    | zero => exact ⟨v, rfl, h.1⟩
    | succ k =>
      obtain ⟨u, hu, hs⟩ := h2 k (by simpa using hk)
      exact ⟨u, by simpa using hu, by simpa using hs⟩
theorem SeesAll.alloc {w : World} {B : Nat} (o : Obj) (hB : B ≤ w.heap.size) : ∀ {vs : List Value} {ls : List Bs}, SeesAll w B vs ls → SeesAll (w.alloc o) B vs ls
  | [], [], _ => trivial
  | v :: vs, l :: ls, h => ⟨Sees.alloc h.1 hB o, h.2.alloc o hB⟩
theorem SeesB.moreA {w : World} {B B' : Nat} (hB : B ≤ B') : ∀ {vs : List Value} {ls : List Bs}, SeesAll w B vs ls → SeesAll w B' vs ls
  | [], [], _ => trivial
  | v :: vs, l :: ls, h => ⟨h.1.more hB, SeesB.moreA hB h.2⟩
/-- A literal of lists. -/
theorem seesL_lit (w : World) (T : TypeId) {vs : List Value} {ls : List Bs} (h : SeesAll w w.heap.size vs ls) (hm : vs.length ≤ maxLen) :
    SeesL (w.alloc (.cells vs.toArray T)) (w.alloc (.cells vs.toArray T)).heap.size (.slice (some ⟨w.heap.size, 0, none⟩) vs.length vs.length) ls := by
  obtain ⟨h1, h2⟩ := h.at_
  have h3 := (SeesB.moreA (B' := (w.alloc (.cells vs.toArray T)).heap.size) (by simp) (h.alloc (.cells vs.toArray T) (Nat.le_refl _))).at_.2
  refine ⟨vs, ⟨by rw [h1, Nat.mul_one], _, _, by rw [h1], by omega, by omega, fun _ => ⟨w.heap.size, 0, rfl, by simp, fun j u hu => ?_⟩⟩, h3⟩
  rw [Nat.zero_add, block_cell (heap_alloc_new w _)]
  exact hu
def u64 (x : Int) : Nat := (x % 18446744073709551616).toNat
theorem u64_lt (x : Int) : u64 x < 18446744073709551616 := by unfold u64; omega
theorem u64_int (x : Int) : x % 18446744073709551616 = (u64 x : Int) := by unfold u64; omega
def spanB (lo hi : Int) : Bs := putB 8 (u64 lo) ++ putB 8 (u64 hi)
def spanC (lo hi : Int) : Int := if vS lo hi then 0 else 3
def spanL (lo hi : Int) : Bs := if vS lo hi then spanB lo hi else []
def SpanPost (lo hi : Int) (w : World) (e : Ending) (w' : World) : Prop :=
  ∃ v, e = .returned (.tuple #[v, .int .i64 (spanC lo hi)]) ∧ OwnB w' w.heap.size v (spanL lo hi) ∧ Below w.heap.size w w'
theorem rput8_any (x : Int) (w : World) : Calls Tryz.prog 15 #[.int .u64 (x % 18446744073709551616), .int .i64 8] w (Gives (putB 8 (u64 x)) w) := by
  rw [u64_int]; exact rput_any (u64 x) 8 (by omega) (u64_lt x) w
theorem put8_any (x : Int) (w : World) : Calls Tryz.prog 48 #[.int .u64 (x % 18446744073709551616), .int .i64 8] w (Gives (putB 8 (u64 x)) w) := by
  rw [u64_int]; exact put_any (u64 x) 8 (by omega) (u64_lt x) w
set_option maxRecDepth 100000 in
theorem rspanbytes_any (lo hi : Int) (w : World) :
    Calls Tryz.prog 66 #[.int .i64 lo, .int .i64 hi] w (Gives (spanB lo hi) w) := by
  have p1 := putB_len 8 (u64 lo)
  have p2 := putB_len 8 (u64 hi)
  go_enter Tryz.func66, Tryz.ntmps66
  go_wp2_with (go_at_call 15; refine (rput8_any _ _).mono ?_; first | (have _h := hb1; clear _h; rintro e w2 ⟨v2, rfl, h2, hb2⟩; obtain ⟨A2, c2, rfl, -, -⟩ := h2.sees.mk_) | (rintro e w1 ⟨v1, rfl, h1, hb1⟩; obtain ⟨A1, c1, rfl, -, -⟩ := h1.sees.mk_))
  rw [p1] at h1
  rw [p2] at h2
  have hall : SeesAll w2 w2.heap.size [.slice A1 _ c1, .slice A2 _ c2] [putB 8 (u64 lo), putB 8 (u64 hi)] := ⟨(h1.below hb2).sees, h2.sees, trivial⟩
  have hl := seesL_lit w2 23 hall (by simp [maxLen])
  have hs : [putB 8 (u64 lo), putB 8 (u64 hi)].flatten.length ≤ 1099511627776 := by simp [p1, p2]
  refine (rjoin_any _ _ _ _ hl (Nat.le_refl _) hs).mono ?_
  rintro e w3 ⟨v3, rfl, h3, hb3⟩
  dsimp only
  go_wp2_with fail
  go_ret
  exact ⟨v3, rfl, by simpa [spanB] using h3.mono (by have := hb1.size; have := hb2.size; simp; omega), (hb1.trans (hb2.mono hb1.size)).trans (((Below.refl _ _).alloc (Nat.le_refl _) _).mono (Nat.le_trans hb1.size hb2.size)) |>.trans (hb3.mono (by have := hb1.size; have := hb2.size; simp; omega))⟩
theorem keep_two {W W' : World} {g : Nat} {x y : Value} (hb : Below W.heap.size W W') (h : W.cell? ⟨g, 0, none⟩ = some x ∧ W.cell? ⟨g, 1, none⟩ = some y ∧ g < W.heap.size) :
    W'.cell? ⟨g, 0, none⟩ = some x ∧ W'.cell? ⟨g, 1, none⟩ = some y ∧ g < W'.heap.size :=
  ⟨(hb.cell (p := ⟨g, 0, none⟩) h.2.2).trans h.1, (hb.cell (p := ⟨g, 1, none⟩) h.2.2).trans h.2.1, Nat.lt_of_lt_of_le h.2.2 hb.size⟩
theorem keep_two_alloc {W : World} {g : Nat} {x y : Value} {o : Obj} (h : W.cell? ⟨g, 0, none⟩ = some x ∧ W.cell? ⟨g, 1, none⟩ = some y ∧ g < W.heap.size) :
    (W.alloc o).cell? ⟨g, 0, none⟩ = some x ∧ (W.alloc o).cell? ⟨g, 1, none⟩ = some y ∧ g < (W.alloc o).heap.size := keep_two ((Below.refl _ _).alloc (Nat.le_refl _) o) h
theorem box_two (w : World) (x y : Value) (T : TypeId) : (w.alloc (.cells #[x, y] T)).cell? ⟨w.heap.size, 0, none⟩ = some x ∧ (w.alloc (.cells #[x, y] T)).cell? ⟨w.heap.size, 1, none⟩ = some y ∧ w.heap.size < (w.alloc (.cells #[x, y] T)).heap.size :=
  ⟨(cell_of_row _ _ 0 _ _ _ (heap_alloc_new w _)).trans rfl, (cell_of_row _ _ 1 _ _ _ (heap_alloc_new w _)).trans rfl, by simp⟩
set_option maxRecDepth 100000 in
theorem span_any (lo hi : Int) (w : World) : Calls Tryz.prog 40 #[.agg #[.int .i64 lo, .int .i64 hi]] w (SpanPost lo hi w) := by
  have p1 := putB_len 8 (u64 lo)
  have p2 := putB_len 8 (u64 hi)
  go_enter Tryz.func40, Tryz.ntmps40
  go_wp2_with fail
  have hk := box_two w (.int .i64 lo) (.int .i64 hi) 40
  have hbw := (Below.refl w.heap.size w).alloc (Nat.le_refl _) (.cells #[.int .i64 lo, .int .i64 hi] 40)
  generalize w.alloc (.cells #[.int .i64 lo, .int .i64 hi] 40) = W at hk hbw ⊢
  obtain ⟨k0, k1, k2⟩ := id hk
  by_cases hv : vS lo hi = true
  all_goals
    go_wp2_with (go_at_call 38; refine (valid_any lo hi _).mono ?_; rintro e W2 ⟨rfl, hb2⟩; obtain ⟨j0, j1, j2⟩ := keep_two hb2 hk)
  · clear k0 k1 k2
    go_region_held3 (fun W' => W'.cell? ⟨w.heap.size, 0, none⟩ = some (.int .i64 lo) ∧ W'.cell? ⟨w.heap.size, 1, none⟩ = some (.int .i64 hi) ∧ w.heap.size < W'.heap.size)
      (first | (go_keep; done) | exact keep_two (by assumption) (by assumption) | exact keep_two_alloc (by assumption))
      (first | (go_at_call 45; rw [p1] at h1; rw [p2] at h2; refine (join_any _ _ _ _ (seesL_lit w2 23 (show SeesAll w2 w2.heap.size [.slice A1 8 c1, .slice A2 8 c2] [putB 8 (u64 lo), putB 8 (u64 hi)] from ⟨(h1.below hc2).sees, h2.sees, trivial⟩) (by simp [maxLen])) (Nat.le_refl _) (by simp [p1, p2])).mono ?_; rintro e w3 ⟨v3, rfl, h3, hb3⟩) | (go_at_call 48; refine (put8_any _ _).mono ?_; first | (have _h := hb1; clear _h; rintro e w2 ⟨v2, rfl, h2, hc2⟩; obtain ⟨A2, c2, rfl, -, -⟩ := h2.sees.mk_) | (rintro e w1 ⟨v1, rfl, h1, hb1⟩; obtain ⟨A1, c1, rfl, -, -⟩ := h1.sees.mk_)))
    go_wp2_with fail
    go_returns
    have hall := bgo (bgo (bgo (bgo (bgo (bgo hbw hb2) (bdrew _)) hb1) hc2) (balloc _ _)) hb3
    have hsz := (bgo (bgo (bgo (bgo (bgo hbw hb2) (bdrew _)) hb1) hc2) (balloc _ (.cells #[.slice A1 8 c1, .slice A2 8 c2] 23))).size
    refine ⟨v3, by simp [spanC, hv], ?_, hall⟩
    rw [spanL, if_pos hv]
    have := h3.mono hsz
    simpa [spanB] using this
  · go_returns
    exact ⟨.slice none 0 0, by simp [spanC, hv], by rw [spanL, if_neg hv]; exact World.ownsRow_nil _ _ _ _, hbw.trans (hb2.mono hbw.size)⟩
end
section
open Go.RowKit
set_option linter.unusedVariables false
set_option linter.unusedSimpArgs false
attribute [local go_sem ↓] Go.wp_at_zero Go.wp_at_succ
def unLo (l : Bs) : Int := wrap64 (getB (l.take 8) : Int)
def unHi (l : Bs) : Int := wrap64 (getB (l.drop 8) : Int)
def unOk (l : Bs) : Bool := decide (l.length = 16) && vS (unLo l) (unHi l)
def unC (l : Bs) : Int := if unOk l then 0 else 3
def unA (l : Bs) : Int := if unOk l then unLo l else 0
def unB (l : Bs) : Int := if unOk l then unHi l else 0
def UnPost (l : Bs) (w : World) (e : Ending) (w' : World) : Prop :=
  e = .returned (.tuple #[.agg #[.int .i64 (unA l), .int .i64 (unB l)], .int .i64 (unC l)]) ∧ Below w.heap.size w w'
set_option maxRecDepth 100000 in
theorem cuts (w : World) (B : Nat) (A : Option Addr) (c : Nat) (l : Bs) (hl : l.length = 16) (hc : 16 ≤ c) (hs : SeesB w B (.slice A 16 c) l) :
    ∃ A1 A2, (∀ W, (Instr.slice 23 (.slice A 16 c) none (some (.int .i64 8)) none).run Tryz.prog W = .ok (.slice A1 8 c) W) ∧
      (∀ W, (Instr.slice 23 (.slice A 16 c) (some (.int .i64 8)) none none).run Tryz.prog W = .ok (.slice A2 8 (c - 8)) W) ∧
      SeesB w B (.slice A1 8 c) (l.take 8) ∧ SeesB w B (.slice A2 8 (c - 8)) (l.drop 8) := by
  have h1 := SeesB.cut (a := 0) (b := 8) hs (by omega) (by omega)
  have h2 := SeesB.cut (a := 8) (b := 16) hs (by omega) (by omega)
  rw [List.drop_zero] at h1
  rw [List.take_of_length_le (by rw [List.length_drop]; omega)] at h2
  refine ⟨cutA A c 0 1, cutA A c 8 1, fun W => ?_, fun W => ?_, h1, h2⟩
  · have h := run_cut_to (P := Tryz.prog) 23 Tryz.underlying23 1 byte_size A 16 c .i64 8 (by omega) (by omega) W
    rw [show (8 : Int).toNat = 8 from rfl] at h
    exact h
  · have h := run_cut_from (P := Tryz.prog) 23 Tryz.underlying23 1 byte_size A 16 c .i64 8 (by omega) (by omega) W
    rw [show (8 : Int).toNat = 8 from rfl] at h
    exact h
set_option maxRecDepth 100000 in
theorem unspan_any (B : Nat) (u : Value) (l : Bs) (w : World) (hu : SeesB w B u l) (hB : B ≤ w.heap.size) :
    Calls Tryz.prog 55 #[u] w (UnPost l w) := by
  obtain ⟨A, c, rfl, hc1, hc2⟩ := hu.mk_
  by_cases hl : l.length = 16
  · rw [hl] at hc1 hu ⊢
    obtain ⟨A1, A2, r1, r2, s1, s2⟩ := cuts w B A c l hl hc1 hu
    have e1 : unC l = if vS (unLo l) (unHi l) then 0 else 3 := by simp [unC, unOk, hl]
    have e2 : unA l = if vS (unLo l) (unHi l) then unLo l else 0 := by simp [unA, unOk, hl]
    have e3 : unB l = if vS (unLo l) (unHi l) then unHi l else 0 := by simp [unB, unOk, hl]
    have e4 : wrap64 (getB (l.take 8) : Int) = unLo l := rfl
    have e5 : wrap64 (getB (l.drop 8) : Int) = unHi l := rfl
    generalize unLo l = lo at *
    generalize unHi l = hi at *
    go_enter Tryz.func55, Tryz.ntmps55
    go_wp2_with fail
    have hb0 := balloc w (.cells #[.int .i64 0, .int .i64 0] 40)
    have hr := Box.new w 40 [.int .i64 0, .int .i64 0]
    have s1' := s1.below (hb0.mono hB)
    have s2' := s2.below (hb0.mono hB)
    have hBW : B ≤ (w.alloc (.cells #[.int .i64 0, .int .i64 0] 40)).heap.size := Nat.le_trans hB hb0.size
    clear s1 s2 hu
    generalize w.alloc (.cells #[.int .i64 0, .int .i64 0] 40) = W at *
    go_region_held3 (fun W' : World => True) (trivial) ((go_at_call 85; refine (get_any B _ _ _ (by first | exact s1' | exact s2' | exact Sees.alloc s1' hBW _ | exact Sees.alloc s2' hBW _)).mono ?_; rintro e w' ⟨rfl, rfl⟩))
    all_goals
      go_wp2_with fail
      have hb1 : Below W.heap.size W (W.alloc (.cells #[.int .i64 lo, .int .i64 hi] 40)).drew := (balloc W _).drew
      have hx : Box (W.alloc (.cells #[.int .i64 lo, .int .i64 hi] 40)).drew W.heap.size 40 [.int .i64 lo, .int .i64 hi] := Box.new W _ _
      have hr1 := hr.below hb1
      generalize (W.alloc (.cells #[.int .i64 lo, .int .i64 hi] 40)).drew = W1 at *
      refine (valid_any lo hi _).mono ?_
      rintro e W2 ⟨rfl, hb2⟩
      have hx2 := hx.below hb2
      have hr2 := hr1.below hb2
      have x0 : W2.cell? ⟨W.heap.size, 0, none⟩ = some (.int .i64 lo) := hx2.cell 0
      have x1 : W2.cell? ⟨W.heap.size, 1, none⟩ = some (.int .i64 hi) := hx2.cell 1
      have y0 : W2.cell? ⟨w.heap.size, 0, none⟩ = some (.int .i64 0) := hr2.cell 0
      have y1 : W2.cell? ⟨w.heap.size, 1, none⟩ = some (.int .i64 0) := hr2.cell 1
      have f0 := hr2.frozen 0
      have f1 := hr2.frozen 1
      have hall := bgo (bgo hb0 hb1) hb2
      have hlt := hr2.lt
      dsimp only
      clear s1' s2' r1 r2 hx hr1 hx2 hr
      by_cases hv : vS lo hi = true
      · go_wp2_with fail
        have hall3 := (hall.setCell (p := ⟨w.heap.size, 0, none⟩) (Nat.le_refl _) (.int .i64 lo)).setCell (p := ⟨w.heap.size, 1, none⟩) (Nat.le_refl _) (.int .i64 hi)
        have hr3 := (hr2.set 0 (.int .i64 lo)).set 1 (.int .i64 hi)
        generalize (W2.setCell ⟨w.heap.size, 0, none⟩ (.int .i64 lo)).setCell ⟨w.heap.size, 1, none⟩ (.int .i64 hi) = W3 at *
        have z0 : W3.cell? ⟨w.heap.size, 0, none⟩ = some (.int .i64 lo) := hr3.cell 0
        have z1 : W3.cell? ⟨w.heap.size, 1, none⟩ = some (.int .i64 hi) := hr3.cell 1
        refine bodyPost_ret (v := .tuple #[.agg #[.int .i64 lo, .int .i64 hi], .int .i64 0]) (by simp [results, Tryz.results55, go_sem, z0, z1]) rfl ?_
        rw [UnPost, e1, e2, e3]
        exact ⟨by simp [hv], hall3⟩
      · go_wp2_with fail
        have hall3 := (hall.setCell (p := ⟨w.heap.size, 0, none⟩) (Nat.le_refl _) (.int .i64 0)).setCell (p := ⟨w.heap.size, 1, none⟩) (Nat.le_refl _) (.int .i64 0)
        have hr3 := (hr2.set 0 (.int .i64 0)).set 1 (.int .i64 0)
        generalize (W2.setCell ⟨w.heap.size, 0, none⟩ (.int .i64 0)).setCell ⟨w.heap.size, 1, none⟩ (.int .i64 0) = W3 at *
        have z0 : W3.cell? ⟨w.heap.size, 0, none⟩ = some (.int .i64 0) := hr3.cell 0
        have z1 : W3.cell? ⟨w.heap.size, 1, none⟩ = some (.int .i64 0) := hr3.cell 1
        refine bodyPost_ret (v := .tuple #[.agg #[.int .i64 0, .int .i64 0], .int .i64 3]) (by simp [results, Tryz.results55, go_sem, z0, z1]) rfl ?_
        rw [UnPost, e1, e2, e3]
        exact ⟨by simp [hv], hall3⟩
  · have e1 : unC l = 3 := by simp [unC, unOk, hl]
    have e2 : unA l = 0 := by simp [unA, unOk, hl]
    have e3 : unB l = 0 := by simp [unB, unOk, hl]
    have hl2 : ¬ ((l.length : Int) = 16) := by omega
    go_enter Tryz.func55, Tryz.ntmps55
    go_wp2_with fail
    go_returns
    rw [UnPost, e1, e2, e3]
    exact ⟨rfl, by go_grown⟩
end
section
open Go.RowKit
theorem rot_and (k m : Nat) (h : (k, m) ∈ [(2, 30), (6, 26), (7, 25), (11, 21), (13, 19), (17, 15), (18, 14), (19, 13), (22, 10), (25, 7)]) : bits .and .u64 (IntKind.u64.wrap (-(k : Int))) 31 = (m : Int) := by
  simp only [List.mem_cons, List.not_mem_nil, or_false, Prod.mk.injEq] at h
  rcases h with ⟨rfl, rfl⟩ | ⟨rfl, rfl⟩ | ⟨rfl, rfl⟩ | ⟨rfl, rfl⟩ | ⟨rfl, rfl⟩ | ⟨rfl, rfl⟩ | ⟨rfl, rfl⟩ | ⟨rfl, rfl⟩ | ⟨rfl, rfl⟩ | ⟨rfl, rfl⟩ <;> kernel_rfl
theorem rotl_any (x : Wd) (k : Int) (n : Nat) (hk : k = -(n : Int)) (hn : n ∈ [2, 6, 7, 11, 13, 17, 18, 19, 22, 25]) (w : World) :
    Calls Tryz.prog 144 #[wdV x, .int .i64 k] w fun e w' => e = .returned (wdV (rotr x n)) ∧ w = w' := by
  unfold wdV
  simp only [List.mem_cons, List.not_mem_nil, or_false] at hn
  have hx := wd_lt x
  rcases hn with rfl | rfl | rfl | rfl | rfl | rfl | rfl | rfl | rfl | rfl
  · have e1 : bits .and .u64 (IntKind.u64.wrap (-2)) 31 = 30 := rot_and 2 30 (by simp)
    subst hk
    go_enter Tryz.func144, Tryz.ntmps144
    go_wp2
    go_ret
    exact ⟨ret_int (by rw [wd_shl' x 30 _ (by decide), wd_shr x 2 _ (by decide), wd_or]; rfl), rfl⟩
  · have e1 : bits .and .u64 (IntKind.u64.wrap (-6)) 31 = 26 := rot_and 6 26 (by simp)
    subst hk
    go_enter Tryz.func144, Tryz.ntmps144
    go_wp2
    go_ret
    exact ⟨ret_int (by rw [wd_shl' x 26 _ (by decide), wd_shr x 6 _ (by decide), wd_or]; rfl), rfl⟩
  · have e1 : bits .and .u64 (IntKind.u64.wrap (-7)) 31 = 25 := rot_and 7 25 (by simp)
    subst hk
    go_enter Tryz.func144, Tryz.ntmps144
    go_wp2
    go_ret
    exact ⟨ret_int (by rw [wd_shl' x 25 _ (by decide), wd_shr x 7 _ (by decide), wd_or]; rfl), rfl⟩
  · have e1 : bits .and .u64 (IntKind.u64.wrap (-11)) 31 = 21 := rot_and 11 21 (by simp)
    subst hk
    go_enter Tryz.func144, Tryz.ntmps144
    go_wp2
    go_ret
    exact ⟨ret_int (by rw [wd_shl' x 21 _ (by decide), wd_shr x 11 _ (by decide), wd_or]; rfl), rfl⟩
  · have e1 : bits .and .u64 (IntKind.u64.wrap (-13)) 31 = 19 := rot_and 13 19 (by simp)
    subst hk
    go_enter Tryz.func144, Tryz.ntmps144
    go_wp2
    go_ret
    exact ⟨ret_int (by rw [wd_shl' x 19 _ (by decide), wd_shr x 13 _ (by decide), wd_or]; rfl), rfl⟩
  · have e1 : bits .and .u64 (IntKind.u64.wrap (-17)) 31 = 15 := rot_and 17 15 (by simp)
    subst hk
    go_enter Tryz.func144, Tryz.ntmps144
    go_wp2
    go_ret
    exact ⟨ret_int (by rw [wd_shl' x 15 _ (by decide), wd_shr x 17 _ (by decide), wd_or]; rfl), rfl⟩
  · have e1 : bits .and .u64 (IntKind.u64.wrap (-18)) 31 = 14 := rot_and 18 14 (by simp)
    subst hk
    go_enter Tryz.func144, Tryz.ntmps144
    go_wp2
    go_ret
    exact ⟨ret_int (by rw [wd_shl' x 14 _ (by decide), wd_shr x 18 _ (by decide), wd_or]; rfl), rfl⟩
  · have e1 : bits .and .u64 (IntKind.u64.wrap (-19)) 31 = 13 := rot_and 19 13 (by simp)
    subst hk
    go_enter Tryz.func144, Tryz.ntmps144
    go_wp2
    go_ret
    exact ⟨ret_int (by rw [wd_shl' x 13 _ (by decide), wd_shr x 19 _ (by decide), wd_or]; rfl), rfl⟩
  · have e1 : bits .and .u64 (IntKind.u64.wrap (-22)) 31 = 10 := rot_and 22 10 (by simp)
    subst hk
    go_enter Tryz.func144, Tryz.ntmps144
    go_wp2
    go_ret
    exact ⟨ret_int (by rw [wd_shl' x 10 _ (by decide), wd_shr x 22 _ (by decide), wd_or]; rfl), rfl⟩
  · have e1 : bits .and .u64 (IntKind.u64.wrap (-25)) 31 = 7 := rot_and 25 7 (by simp)
    subst hk
    go_enter Tryz.func144, Tryz.ntmps144
    go_wp2
    go_ret
    exact ⟨ret_int (by rw [wd_shl' x 7 _ (by decide), wd_shr x 25 _ (by decide), wd_or]; rfl), rfl⟩
theorem rotate_any (x : Wd) (k : Int) (n : Nat) (hk : k = (n : Int)) (hn : n ∈ [2, 6, 7, 11, 13, 17, 18, 19, 22, 25]) (w : World) :
    Calls Tryz.prog 143 #[wdV x, .int .i64 k] w fun e w' => e = .returned (wdV (rotr x n)) ∧ w = w' := by
  have hk0 : 0 ≤ k := by omega
  have hk1 : k ≤ 100 := by simp only [List.mem_cons, List.not_mem_nil, or_false] at hn; omega
  have H := Lib.hid hk
  clear hk
  go_enter Tryz.func143, Tryz.ntmps143
  go_wp2_with (go_at_call 144; refine (rotl_any x _ n (by rw [H.out]) hn _).mono ?_; rintro e w' ⟨rfl, rfl⟩)
  go_ret
  exact ⟨rfl, rfl⟩
theorem first_any (w : World) : Calls Tryz.prog 132 #[] w fun e w' => e = .returned (.agg #[wdV st0.a, wdV st0.b, wdV st0.c, wdV st0.d, wdV st0.e, wdV st0.f, wdV st0.g, wdV st0.h]) ∧ Below w.heap.size w w' := by
  go_enter Tryz.func132, Tryz.ntmps132
  go_wp2
  go_returns
  exact ⟨rfl, by go_grown⟩
theorem tab_of (c : Array Value) (h : c.toList = kTab.map wdV) : ∀ i, i < c.size → c[i]? = some (wdV (kAt i)) := by
  intro i hi
  have hl : i < kTab.length := by have := congrArg List.length h; simp at this; omega
  rw [← Array.getElem?_toList, h, List.getElem?_map, List.getElem?_eq_getElem hl, Option.map_some, kAt, List.getD_eq_getElem?_getD, List.getElem?_eq_getElem hl, Option.getD_some]
set_option maxRecDepth 100000 in
set_option maxHeartbeats 8000000 in
theorem constants_any (w : World) : Calls Tryz.prog 138 #[] w fun e w' => e = .returned (.pointer (some ⟨w.heap.size, 0, none⟩)) ∧ w'.rowIs w.heap.size 115 64 (fun t => wdV (kAt t)) ∧ Below w.heap.size w w' := by
  go_enter Tryz.func138, Tryz.ntmps138
  go_wp2
  go_ret
  exact ⟨rfl, World.rowIs_alloc _ _ _ _ (tab_of _ (by kernel_rfl)), (Below.refl _ _).alloc (Nat.le_refl _) _⟩
end
section
open Go.RowKit
set_option linter.unusedVariables false
attribute [local go_sem ↓] Go.wp_at_zero Go.wp_at_succ
theorem wd_of (x : UInt8) : IntKind.u32.wrap (x.toNat : Int) = ((BitVec.ofNat 32 x.toNat).toNat : Int) := by
  have hx := x.toNat_lt
  rw [IntKind.wrap_u32, BitVec.toNat_ofNat]; omega
theorem word4_int (a b c d : UInt8) : bits .or .u32 (bits .or .u32 (bits .or .u32 ((a.toNat : Int) % 4294967296 * 16777216 % 4294967296) ((b.toNat : Int) % 4294967296 * 65536 % 4294967296)) ((c.toNat : Int) % 4294967296 * 256 % 4294967296)) ((d.toNat : Int) % 4294967296) = ((word4 a b c d).toNat : Int) := by
  simp only [← IntKind.wrap_u32]
  rw [wd_of, wd_of, wd_of, wd_of, wd_shl _ 24 _ (by decide), wd_shl _ 16 _ (by decide), wd_shl _ 8 _ (by decide), wd_or, wd_or, wd_or]
  rfl
theorem rowIs_rep (w : World) (c : Array Value) (t : TypeId) (v : Value) (n : Nat) (h : c.toList = List.replicate n v) : (w.alloc (.cells c t)).rowIs w.heap.size t n (fun _ => v) := by
  have hl : c.size = n := by have := congrArg List.length h; simpa using this
  subst hl
  exact World.rowIs_alloc w c t _ fun i hi => by rw [← Array.getElem?_toList, h, List.getElem?_replicate, if_pos hi]
theorem wp_world {P : Program} {code : Code} {Q : Exit → Act → World → Prop} {a : Act} {w : World} (R : World → Prop) (h1 : R w) (h2 : ∀ W, R W → Code.wp P code Q a W) : Code.wp P code Q a w := h2 _ h1
theorem wp_named {P : Program} {code : Code} {Q : Exit → Act → World → Prop} {a : Act} {w : World} {o : Obj} (R : World → Prop) (h1 : R (w.alloc o)) (h2 : ∀ W, R W → Code.wp P code Q a W) : Code.wp P code Q a (w.alloc o) := h2 _ h1
theorem rotate_any' (x : Wd) (k : Int) (n : Nat) (hk : k = (n : Int)) (hn : n ∈ [2, 6, 7, 11, 13, 17, 18, 19, 22, 25]) (w : World) :
    Calls Tryz.prog 143 #[.int .u32 (x.toNat : Int), .int .i64 k] w fun e w' => e = .returned (.int .u32 ((rotr x n).toNat : Int)) ∧ w = w' := rotate_any x k n hk hn w
theorem sched_eq (m : Nat → Wd) (k : Nat) : sched m k = if k < 16 then m k else sig1 (sched m (k - 2)) + sched m (k - 7) + sig0 (sched m (k - 15)) + sched m (k - 16) := by
  rw [sched]
theorem sched_int (x y p q : Wd) : (((bits .xor .u32 (bits .xor .u32 ((rotr y 17).toNat : Int) ((rotr y 19).toNat : Int)) ((y.toNat : Int) / 1024) + (p.toNat : Int)) % 4294967296 + bits .xor .u32 (bits .xor .u32 ((rotr x 7).toNat : Int) ((rotr x 18).toNat : Int)) ((x.toNat : Int) / 8)) % 4294967296 + (q.toNat : Int)) % 4294967296 = ((sig1 y + p + sig0 x + q).toNat : Int) := by
  rw [wd_shr y 10 _ (by decide), wd_shr x 3 _ (by decide), wd_xor, wd_xor, wd_xor, wd_xor, wd_add', wd_add', wd_add']
  rfl
def stCells (s : St) : List Value := [.int .u32 (s.a.toNat : Int), .int .u32 (s.b.toNat : Int), .int .u32 (s.c.toNat : Int), .int .u32 (s.d.toNat : Int), .int .u32 (s.e.toNat : Int), .int .u32 (s.f.toNat : Int), .int .u32 (s.g.toNat : Int), .int .u32 (s.h.toNat : Int)]
theorem rotate_q (x : Wd) (k : Int) (n : Nat) (hk : k = (n : Int)) (hn : n ∈ [2, 6, 7, 11, 13, 17, 18, 19, 22, 25]) (w : World) :
    Calls Tryz.prog 143 #[.int .u32 (x.toNat : Int), .int .i64 k] w fun e w' => e = .returned (.int .u32 ((rotr x n).toNat : Int)) ∧ w' = w := (rotate_any x k n hk hn w).mono fun _ _ h => ⟨h.1, h.2.symm⟩
theorem wd_not (x : Wd) : bits .xor .u32 IntKind.u32.max (x.toNat : Int) = ((~~~x).toNat : Int) := by
  rw [show IntKind.u32.max = ((4294967295 : Nat) : Int) from rfl, show (4294967295 : Nat) = (BitVec.allOnes 32).toNat from rfl, wd_xor, BitVec.allOnes_xor]
def tOne (q : St) (k w : Wd) : Wd := q.h + (rotr q.e 6 ^^^ rotr q.e 11 ^^^ rotr q.e 25) + ((q.e &&& q.f) ^^^ (~~~q.e &&& q.g)) + k + w
def tTwo (q : St) : Wd := (rotr q.a 2 ^^^ rotr q.a 13 ^^^ rotr q.a 22) + ((q.a &&& q.b) ^^^ (q.a &&& q.c) ^^^ (q.b &&& q.c))
theorem rnd_eq (q : St) (k w : Wd) : rnd q k w = ⟨tOne q k w + tTwo q, q.a, q.b, q.c, q.d + tOne q k w, q.e, q.f, q.g⟩ := rfl
theorem tOne_int (q : St) (k w : Wd) : ((q.h.toNat : Int) + bits .xor .u32 (bits .xor .u32 ((rotr q.e 6).toNat : Int) ((rotr q.e 11).toNat : Int)) ((rotr q.e 25).toNat : Int) + bits .xor .u32 (bits .and .u32 (q.e.toNat : Int) (q.f.toNat : Int)) (bits .and .u32 (bits .xor .u32 IntKind.u32.max (q.e.toNat : Int)) (q.g.toNat : Int)) + (k.toNat : Int) + (w.toNat : Int)) % 4294967296 = ((tOne q k w).toNat : Int) := by
  rw [wd_not, wd_xor, wd_xor, wd_and, wd_and, wd_xor]
  unfold tOne
  rw [← wd_add', ← wd_add', ← wd_add', ← wd_add']
  omega
theorem tTwo_int (q : St) : (bits .xor .u32 (bits .xor .u32 ((rotr q.a 2).toNat : Int) ((rotr q.a 13).toNat : Int)) ((rotr q.a 22).toNat : Int) + bits .xor .u32 (bits .xor .u32 (bits .and .u32 (q.a.toNat : Int) (q.b.toNat : Int)) (bits .and .u32 (q.a.toNat : Int) (q.c.toNat : Int))) (bits .and .u32 (q.b.toNat : Int) (q.c.toNat : Int))) % 4294967296 = ((tTwo q).toNat : Int) := by
  rw [wd_xor, wd_xor, wd_and, wd_and, wd_and, wd_xor, wd_xor, wd_add']
  rfl
theorem stCells_row {w : World} {g : Nat} {T : TypeId} {q : St} (h : w.heap[g]? = some (.cells (stCells q).toArray T)) : w.rowIs g T 8 (fun i => wdV (stAt q i)) := by
  refine ⟨_, h, rfl, fun i hi => ?_⟩
  match i, hi with
  | 0, _ => rfl
  | 1, _ => rfl
  | 2, _ => rfl
  | 3, _ => rfl
  | 4, _ => rfl
  | 5, _ => rfl
  | 6, _ => rfl
  | 7, _ => rfl
theorem addSt_at (s q : St) (i : Nat) (_h : i < 8) : stAt s i + stAt q i = stAt (addSt s q) i := by
  match i with
  | 0 => rfl
  | 1 => rfl
  | 2 => rfl
  | 3 => rfl
  | 4 => rfl
  | 5 => rfl
  | 6 => rfl
  | n + 7 => rfl
end
section
open Go.RowKit
set_option linter.unusedVariables false
attribute [local go_sem ↓] Go.wp_at_zero Go.wp_at_succ
theorem turn_any (x : Wd) (k : Int) (n : Nat) (hk : k = (n : Int)) (hn : n ∈ [2, 6, 7, 11, 13, 17, 18, 19, 22, 25]) (w : World) :
    Calls Tryz.prog 69 #[.int .u32 (x.toNat : Int), .int .i64 k] w fun e w' => e = .returned (.int .u32 ((rotr x n).toNat : Int)) ∧ w = w' := by
  simp only [List.mem_cons, List.not_mem_nil, or_false] at hn
  have hx := wd_lt x
  rcases hn with rfl | rfl | rfl | rfl | rfl | rfl | rfl | rfl | rfl | rfl
  · subst hk
    go_enter Tryz.func69, Tryz.ntmps69
    go_wp2
    go_ret
    exact ⟨ret_int (by rw [wd_shl' x 30 _ (by decide), wd_shr x 2 _ (by decide), wd_or, BitVec.or_comm]; rfl), rfl⟩
  · subst hk
    go_enter Tryz.func69, Tryz.ntmps69
    go_wp2
    go_ret
    exact ⟨ret_int (by rw [wd_shl' x 26 _ (by decide), wd_shr x 6 _ (by decide), wd_or, BitVec.or_comm]; rfl), rfl⟩
  · subst hk
    go_enter Tryz.func69, Tryz.ntmps69
    go_wp2
    go_ret
    exact ⟨ret_int (by rw [wd_shl' x 25 _ (by decide), wd_shr x 7 _ (by decide), wd_or, BitVec.or_comm]; rfl), rfl⟩
  · subst hk
    go_enter Tryz.func69, Tryz.ntmps69
    go_wp2
    go_ret
    exact ⟨ret_int (by rw [wd_shl' x 21 _ (by decide), wd_shr x 11 _ (by decide), wd_or, BitVec.or_comm]; rfl), rfl⟩
  · subst hk
    go_enter Tryz.func69, Tryz.ntmps69
    go_wp2
    go_ret
    exact ⟨ret_int (by rw [wd_shl' x 19 _ (by decide), wd_shr x 13 _ (by decide), wd_or, BitVec.or_comm]; rfl), rfl⟩
  · subst hk
    go_enter Tryz.func69, Tryz.ntmps69
    go_wp2
    go_ret
    exact ⟨ret_int (by rw [wd_shl' x 15 _ (by decide), wd_shr x 17 _ (by decide), wd_or, BitVec.or_comm]; rfl), rfl⟩
  · subst hk
    go_enter Tryz.func69, Tryz.ntmps69
    go_wp2
    go_ret
    exact ⟨ret_int (by rw [wd_shl' x 14 _ (by decide), wd_shr x 18 _ (by decide), wd_or, BitVec.or_comm]; rfl), rfl⟩
  · subst hk
    go_enter Tryz.func69, Tryz.ntmps69
    go_wp2
    go_ret
    exact ⟨ret_int (by rw [wd_shl' x 13 _ (by decide), wd_shr x 19 _ (by decide), wd_or, BitVec.or_comm]; rfl), rfl⟩
  · subst hk
    go_enter Tryz.func69, Tryz.ntmps69
    go_wp2
    go_ret
    exact ⟨ret_int (by rw [wd_shl' x 10 _ (by decide), wd_shr x 22 _ (by decide), wd_or, BitVec.or_comm]; rfl), rfl⟩
  · subst hk
    go_enter Tryz.func69, Tryz.ntmps69
    go_wp2
    go_ret
    exact ⟨ret_int (by rw [wd_shl' x 7 _ (by decide), wd_shr x 25 _ (by decide), wd_or, BitVec.or_comm]; rfl), rfl⟩
theorem turn_q (x : Wd) (k : Int) (n : Nat) (hk : k = (n : Int)) (hn : n ∈ [2, 6, 7, 11, 13, 17, 18, 19, 22, 25]) (w : World) :
    Calls Tryz.prog 69 #[.int .u32 (x.toNat : Int), .int .i64 k] w fun e w' => e = .returned (.int .u32 ((rotr x n).toNat : Int)) ∧ w' = w := (turn_any x k n hk hn w).mono fun _ _ h => ⟨h.1, h.2.symm⟩
def RBlockPost (s : St) (bs : Bs) (w : World) (e : Ending) (w' : World) : Prop :=
  ∃ v, e = .returned v ∧ w'.ownsRow w.heap.size 114 1 v 8 (stCells (compress s bs)) ∧ Below w.heap.size w w'
set_option maxRecDepth 100000 in
set_option maxHeartbeats 4000000 in
theorem rblock_any (gh oh ch kg ok ck gb ob c : Nat) (s : St) (bs : Bs) (w : World) (lh : gh < w.heap.size) (lk : kg < w.heap.size) (hgb : gb < w.heap.size)
    (hs : ∀ j, j < 8 → w.cell? ⟨gh, oh + j, none⟩ = some (wdV (stAt s j))) (hk : ∀ j, j < 64 → w.cell? ⟨kg, ok + j, none⟩ = some (wdV (kAt j)))
    (hb : ∀ j, j < 64 → w.cell? ⟨gb, ob + j, none⟩ = some (byV (bs.getD j 0))) :
    Calls Tryz.prog 36 #[.slice (some ⟨gh, oh, none⟩) 8 ch, .slice (some ⟨kg, ok, none⟩) 64 ck, .slice (some ⟨gb, ob, none⟩) 64 c] w (RBlockPost s bs w) := by
  have HS := Lib.hid hs
  have HK := Lib.hid hk
  have HB := Lib.hid hb
  clear hs hk hb
  go_enter Tryz.func36, Tryz.ntmps36
  go_wp2_with fail
  refine wp_named (fun W => Hid (W.rowIs w.heap.size 115 64 (fun _ => wdV 0)) ∧ Below w.heap.size w W) ⟨rowIs_rep _ _ _ _ _ (by kernel_rfl), (Below.refl _ _).alloc (Nat.le_refl _) _⟩ ?_
  rintro W0 ⟨hW, hbw⟩
  go_loopw [8] (fun t wr => ∃ k : Nat, k ≤ 16 ∧ t = .int .i64 k ∧ Hid (wr.rowIs w.heap.size 115 64 (fun j => if j < k then wdV (wordAt bs j) else wdV 0)) ∧ Below w.heap.size w wr) (fun t _ => 16 - (intOf t).toNat)
  case atStart => exact ⟨0, by omega, rfl, hW.out.congr (fun _ _ => by simp), hbw⟩
  case round =>
    obtain ⟨k, hk16, rfl, hrow, hbr⟩ := hrel
    by_cases hlt : k < 16
    · have c0 := (hbr.cell (p := ⟨gb, ob + 4 * k, none⟩) hgb).trans (HB.out (4 * k) (by omega))
      have c1 := (hbr.cell (p := ⟨gb, ob + (4 * k + 1), none⟩) hgb).trans (HB.out (4 * k + 1) (by omega))
      have c2 := (hbr.cell (p := ⟨gb, ob + (4 * k + 2), none⟩) hgb).trans (HB.out (4 * k + 2) (by omega))
      have c3 := (hbr.cell (p := ⟨gb, ob + (4 * k + 3), none⟩) hgb).trans (HB.out (4 * k + 3) (by omega))
      have cw := hrow.out.cell (i := k) (by omega)
      have fw := hrow.out.frozen k
      have hw := word4_int (bs.getD (4 * k) 0) (bs.getD (4 * k + 1) 0) (bs.getD (4 * k + 2) 0) (bs.getD (4 * k + 3) 0)
      rw [if_neg (by omega)] at cw
      have Hw := Lib.hid hw
      clear hw
      unfold byV at c0 c1 c2 c3
      unfold wdV at cw
      have HX : Hid (word4 (bs.getD (4 * k) 0) (bs.getD (4 * k + 1) 0) (bs.getD (4 * k + 2) 0) (bs.getD (4 * k + 3) 0) = wordAt bs k) := rfl
      generalize bs.getD (4 * k) 0 = x0 at *
      generalize bs.getD (4 * k + 1) 0 = x1 at *
      generalize bs.getD (4 * k + 2) 0 = x2 at *
      generalize bs.getD (4 * k + 3) 0 = x3 at *
      have e0 : IntKind.i64.wrap (4 * (k : Int)) = 4 * (k : Int) := by rw [IntKind.wrap_i64]; omega
      have l0a : (0 : Int) ≤ 4 * (k : Int) := by omega
      have l0b : 4 * (k : Int) < 64 := by omega
      have t0 : (4 * (k : Int)).toNat = 4 * k := by omega
      have e1 : IntKind.i64.wrap (4 * (k : Int) + 1) = 4 * (k : Int) + 1 := by rw [IntKind.wrap_i64]; omega
      have l1a : (0 : Int) ≤ 4 * (k : Int) + 1 := by omega
      have l1b : 4 * (k : Int) + 1 < 64 := by omega
      have t1 : (4 * (k : Int) + 1).toNat = 4 * k + 1 := by omega
      have e2 : IntKind.i64.wrap (4 * (k : Int) + 2) = 4 * (k : Int) + 2 := by rw [IntKind.wrap_i64]; omega
      have l2a : (0 : Int) ≤ 4 * (k : Int) + 2 := by omega
      have l2b : 4 * (k : Int) + 2 < 64 := by omega
      have t2 : (4 * (k : Int) + 2).toNat = 4 * k + 2 := by omega
      have e3 : IntKind.i64.wrap (4 * (k : Int) + 3) = 4 * (k : Int) + 3 := by rw [IntKind.wrap_i64]; omega
      have l3a : (0 : Int) ≤ 4 * (k : Int) + 3 := by omega
      have l3b : 4 * (k : Int) + 3 < 64 := by omega
      have t3 : (4 * (k : Int) + 3).toNat = 4 * k + 3 := by omega
      have k0 : (0 : Int) ≤ (k : Int) := by omega
      have k1 : (k : Int) < 64 := by omega
      have hne : ¬ w.heap.size = gb := by omega
      go_wp2_with fail
      go_region_held3 (fun w' => w'.cell? ⟨gb, ob + 4 * k, none⟩ = some (.int .u8 x0.toNat) ∧ w'.cell? ⟨gb, ob + (4 * k + 1), none⟩ = some (.int .u8 x1.toNat) ∧ w'.cell? ⟨gb, ob + (4 * k + 2), none⟩ = some (.int .u8 x2.toNat) ∧ w'.cell? ⟨gb, ob + (4 * k + 3), none⟩ = some (.int .u8 x3.toNat)) (go_keep) (fail)
      go_wp2
      go_roundw
      case rel =>
        refine ⟨k + 1, by omega, by go_num, ?_, (hbr.setCell (Nat.le_refl _) _).drew⟩
        rw [Hw.out, HX.out]
        exact (hrow.out.set k _).congr (fun j hj => by
          by_cases h1 : j = k
          · subst h1; rw [if_pos rfl, if_pos (by omega)]; rfl
          · rw [if_neg h1]
            by_cases h2 : j < k
            · rw [if_pos h2, if_pos (by omega)]
            · rw [if_neg h2, if_neg (by omega)])
      case measure => simp [intOf]; omega
    · have hrow2 : Hid (wr.rowIs w.heap.size 115 64 (fun j => if j < 16 then wdV (sched (wordAt bs) j) else wdV 0)) := hrow.out.congr (fun j hj => by
        obtain rfl : k = 16 := by omega
        by_cases h2 : j < 16
        · rw [if_pos h2, if_pos h2, sched, if_pos h2]
        · rw [if_neg h2, if_neg h2])
      clear hrow hW hbw
      go_wp2_with fail
      obtain ⟨S, hS⟩ : ∃ S : Nat → Wd, S = sched (wordAt bs) := ⟨_, rfl⟩
      have hSt : Hid (∀ k, 16 ≤ k → sig1 (S (k - 2)) + S (k - 7) + sig0 (S (k - 15)) + S (k - 16) = S k) := fun k hk => by
        rw [hS]; exact ((sched_eq (wordAt bs) k).trans (if_neg (by omega))).symm
      rw [← hS] at hrow2
      have HSS := Lib.hid hS
      clear hS
      have hbr0 := hbr
      obtain ⟨wl, rfl⟩ : ∃ wl : World, wl = wr := ⟨_, rfl⟩
      go_loopw [9] (fun t wr => ∃ k : Nat, 16 ≤ k ∧ k ≤ 64 ∧ t = .int .i64 k ∧ Hid (wr.rowIs w.heap.size 115 64 (fun j => if j < k then wdV (S j) else wdV 0)) ∧ Below w.heap.size w wr) (fun t _ => 64 - (intOf t).toNat)
      case atStart => exact ⟨16, by omega, by omega, rfl, hrow2, hbr⟩
      case round =>
        obtain ⟨k, hk16, hk64, rfl, hrow, hbr⟩ := hrel
        by_cases hlt : k < 64
        · obtain ⟨k15, e15⟩ : ∃ m, k - 15 = m := ⟨_, rfl⟩
          obtain ⟨k2, e2⟩ : ∃ m, k - 2 = m := ⟨_, rfl⟩
          obtain ⟨k7, e7⟩ : ∃ m, k - 7 = m := ⟨_, rfl⟩
          obtain ⟨kk, e16⟩ : ∃ m, k - 16 = m := ⟨_, rfl⟩
          have c15 := hrow.out.cell (i := k15) (by omega)
          have c2 := hrow.out.cell (i := k2) (by omega)
          have c7 := hrow.out.cell (i := k7) (by omega)
          have c16 := hrow.out.cell (i := kk) (by omega)
          have cw := hrow.out.cell (i := k) (by omega)
          have fw := hrow.out.frozen k
          rw [if_pos (by omega)] at c15 c2 c7 c16
          rw [if_neg (by omega)] at cw
          have hst := hSt.out k hk16
          rw [e15, e2, e7, e16] at hst
          have w15 : IntKind.i64.wrap ((k : Int) - 15) = (k15 : Int) := by rw [IntKind.wrap_i64]; omega
          have w2 : IntKind.i64.wrap ((k : Int) - 2) = (k2 : Int) := by rw [IntKind.wrap_i64]; omega
          have w7 : IntKind.i64.wrap ((k : Int) - 7) = (k7 : Int) := by rw [IntKind.wrap_i64]; omega
          have w16 : IntKind.i64.wrap ((k : Int) - 16) = (kk : Int) := by rw [IntKind.wrap_i64]; omega
          have a15 : (0 : Int) ≤ (k15 : Int) := by omega
          have a2 : (0 : Int) ≤ (k2 : Int) := by omega
          have a7 : (0 : Int) ≤ (k7 : Int) := by omega
          have a16 : (0 : Int) ≤ (kk : Int) := by omega
          have d15 : (k15 : Int) < 64 := by omega
          have d2 : (k2 : Int) < 64 := by omega
          have d7 : (k7 : Int) < 64 := by omega
          have d16 : (kk : Int) < 64 := by omega
          have d0 : (k : Int) < 64 := by omega
          have a0 : (0 : Int) ≤ (k : Int) := by omega
          have hne7 : k ≠ k7 := by omega
          have hne16 : k ≠ kk := by omega
          unfold wdV at c15 c2 c7 c16 cw
          have HST := Lib.hid hst
          clear hst e15 e2 e7 e16
          generalize S k15 = x at c15 HST
          generalize S k2 = y at c2 HST
          generalize S k7 = p at c7 HST
          generalize S kk = q at c16 HST
          go_wp2_with fail
          go_quiet (fail)
          go_wp2_with fail
          have hrow3 : Hid ((wr.drewN nq).rowIs w.heap.size 115 64 (fun j => if j < k then wdV (S j) else wdV 0)) := hrow
          have hbr3 := below_drewN hbr nq
          have z7 : (wr.drewN nq).cell? ⟨w.heap.size, k7, none⟩ = some (.int .u32 (p.toNat : Int)) := c7
          have z16 : (wr.drewN nq).cell? ⟨w.heap.size, kk, none⟩ = some (.int .u32 (q.toNat : Int)) := c16
          have zw : (wr.drewN nq).cell? ⟨w.heap.size, k, none⟩ = some (.int .u32 ((0 : Wd).toNat : Int)) := cw
          have zf : (wr.drewN nq).frozen? ⟨w.heap.size, k, none⟩ = false := fw
          clear c15 c2 c7 c16 cw fw hrow hbr w15 w2 a15 a2 d15 d2
          generalize wr.drewN nq = w3 at hrow3 hbr3 z7 z16 zw zf ⊢
          have y7 : ∀ v, (w3.setCell ⟨w.heap.size, k, none⟩ v).cell? ⟨w.heap.size, k7, none⟩ = some (.int .u32 (p.toNat : Int)) := fun v => (World.cell?_setCell_other _ _ _ _ (fun e => by injection e; omega)).trans z7
          have y16 : ∀ v, (w3.setCell ⟨w.heap.size, k, none⟩ v).cell? ⟨w.heap.size, kk, none⟩ = some (.int .u32 (q.toNat : Int)) := fun v => (World.cell?_setCell_other _ _ _ _ (fun e => by injection e; omega)).trans z16
          have HE := Lib.hid (sched_int x y p q)
          go_region_held3 (fun w' => w'.cell? ⟨w.heap.size, k7, none⟩ = some (.int .u32 (p.toNat : Int)) ∧ w'.cell? ⟨w.heap.size, kk, none⟩ = some (.int .u32 (q.toNat : Int))) (go_keep) ((go_at_call 69; refine (turn_any _ _ _ rfl (by simp) _).mono ?_; rintro e w' ⟨rfl, rfl⟩))
          go_wp2
          go_roundw
          case rel =>
            refine ⟨k + 1, by omega, by omega, by go_num, ?_, (hbr3.setCell (Nat.le_refl _) _).drew⟩
            rw [HE.out, HST.out]
            exact (hrow3.out.set k _).congr (fun j hj => by
              by_cases h1 : j = k
              · subst h1; rw [if_pos rfl, if_pos (by omega)]; rfl
              · rw [if_neg h1]
                by_cases h2 : j < k
                · rw [if_pos h2, if_pos (by omega)]
                · rw [if_neg h2, if_neg (by omega)])
          case measure => simp [intOf]; omega
        · have hrow2 : Hid (wr.rowIs w.heap.size 115 64 (fun j => wdV (S j))) := hrow.out.congr (fun j hj => by rw [if_pos (by omega)])
          clear hrow hbr0 hSt
          have g0 : wr.cell? ⟨gh, oh, none⟩ = some (.int .u32 (s.a.toNat : Int)) := (hbr.cell (p := ⟨gh, oh, none⟩) lh).trans (HS.out 0 (by omega))
          have g1 : wr.cell? ⟨gh, oh + 1, none⟩ = some (.int .u32 (s.b.toNat : Int)) := (hbr.cell (p := ⟨gh, oh + 1, none⟩) lh).trans (HS.out 1 (by omega))
          have g2 : wr.cell? ⟨gh, oh + 2, none⟩ = some (.int .u32 (s.c.toNat : Int)) := (hbr.cell (p := ⟨gh, oh + 2, none⟩) lh).trans (HS.out 2 (by omega))
          have g3 : wr.cell? ⟨gh, oh + 3, none⟩ = some (.int .u32 (s.d.toNat : Int)) := (hbr.cell (p := ⟨gh, oh + 3, none⟩) lh).trans (HS.out 3 (by omega))
          have g4 : wr.cell? ⟨gh, oh + 4, none⟩ = some (.int .u32 (s.e.toNat : Int)) := (hbr.cell (p := ⟨gh, oh + 4, none⟩) lh).trans (HS.out 4 (by omega))
          have g5 : wr.cell? ⟨gh, oh + 5, none⟩ = some (.int .u32 (s.f.toNat : Int)) := (hbr.cell (p := ⟨gh, oh + 5, none⟩) lh).trans (HS.out 5 (by omega))
          have g6 : wr.cell? ⟨gh, oh + 6, none⟩ = some (.int .u32 (s.g.toNat : Int)) := (hbr.cell (p := ⟨gh, oh + 6, none⟩) lh).trans (HS.out 6 (by omega))
          have g7 : wr.cell? ⟨gh, oh + 7, none⟩ = some (.int .u32 (s.h.toNat : Int)) := (hbr.cell (p := ⟨gh, oh + 7, none⟩) lh).trans (HS.out 7 (by omega))
          go_wp2_with fail
          go_quiet (fail)
          go_wp2_with fail
          refine wp_world (fun W => Hid (W.rowIs w.heap.size 115 64 (fun j => wdV (S j))) ∧ Below w.heap.size w W) ⟨hrow2, below_drewN hbr _⟩ ?_
          clear g0 g1 g2 g3 g4 g5 g6 g7 hrow2 hbr
          rintro W1 ⟨hrow2, hbr⟩
          have hq0 : Hid (s = rnds s S 0) := rfl
          go_loopw [12, 13, 14, 15, 16, 17, 18, 19, 20] (fun va vb vc vd ve vf vg vh t wr => ∃ (m : Nat) (q : St), m ≤ 64 ∧ t = .int .i64 m ∧ Hid (q = rnds s S m) ∧ va = .int .u32 (q.a.toNat : Int) ∧ vb = .int .u32 (q.b.toNat : Int) ∧ vc = .int .u32 (q.c.toNat : Int) ∧ vd = .int .u32 (q.d.toNat : Int) ∧ ve = .int .u32 (q.e.toNat : Int) ∧ vf = .int .u32 (q.f.toNat : Int) ∧ vg = .int .u32 (q.g.toNat : Int) ∧ vh = .int .u32 (q.h.toNat : Int) ∧ Hid (wr.rowIs w.heap.size 115 64 (fun j => wdV (S j))) ∧ Below w.heap.size w wr) (fun _ _ _ _ _ _ _ _ t _ => 64 - (intOf t).toNat)
          case atStart => exact ⟨0, s, by omega, rfl, hq0, rfl, rfl, rfl, rfl, rfl, rfl, rfl, rfl, hrow2, hbr⟩
          case round =>
            clear hrow2 hbr
            obtain ⟨m, q, hm64, rfl, hq, rfl, rfl, rfl, rfl, rfl, rfl, rfl, rfl, hwr, hbr⟩ := hrel
            by_cases hlt3 : m < 64
            · have hnext : Hid (rnd q (kAt m) (S m) = rnds s S (m + 1)) := by rw [hq.out]; rfl
              have ck := (hbr.cell (p := ⟨kg, ok + m, none⟩) lk).trans (HK.out m hlt3)
              have cS := hwr.out.cell (i := m) hlt3
              unfold wdV at ck cS
              generalize kAt m = km at ck hnext
              generalize S m = sm at cS hnext
              have m0 : (0 : Int) ≤ (m : Int) := by omega
              have m1 : (m : Int) < 64 := by omega
              go_wp2_with fail
              go_quiet ((go_at_call 69; exact Calls.quiet_of_same (turn_q _ _ _ rfl (by simp) _)))
              go_wp2_with fail
              rw [tOne_int q km sm]
              go_wp2_with (go_at_call 69; refine (turn_any _ _ _ rfl (by simp) _).mono ?_; rintro e w' ⟨rfl, rfl⟩)
              go_roundw
              case rel =>
                refine ⟨m + 1, rnd q km sm, by omega, by go_num, hnext, ?_, rfl, rfl, rfl, ?_, rfl, rfl, rfl, hwr, below_drewN hbr nq⟩
                · rw [tTwo_int, wd_add', rnd_eq]
                · rw [wd_add', rnd_eq]
              case measure => simp [intOf]; omega
            · have hfin : Hid (addSt s q = compress s bs) := by
                obtain rfl : m = 64 := by omega
                unfold compress
                rw [← HSS.out, hq.out]
                exact rfl
              clear hwr hq
              have g0 : wr.cell? ⟨gh, oh, none⟩ = some (.int .u32 (s.a.toNat : Int)) := (hbr.cell (p := ⟨gh, oh, none⟩) lh).trans (HS.out 0 (by omega))
              have g1 : wr.cell? ⟨gh, oh + 1, none⟩ = some (.int .u32 (s.b.toNat : Int)) := (hbr.cell (p := ⟨gh, oh + 1, none⟩) lh).trans (HS.out 1 (by omega))
              have g2 : wr.cell? ⟨gh, oh + 2, none⟩ = some (.int .u32 (s.c.toNat : Int)) := (hbr.cell (p := ⟨gh, oh + 2, none⟩) lh).trans (HS.out 2 (by omega))
              have g3 : wr.cell? ⟨gh, oh + 3, none⟩ = some (.int .u32 (s.d.toNat : Int)) := (hbr.cell (p := ⟨gh, oh + 3, none⟩) lh).trans (HS.out 3 (by omega))
              have g4 : wr.cell? ⟨gh, oh + 4, none⟩ = some (.int .u32 (s.e.toNat : Int)) := (hbr.cell (p := ⟨gh, oh + 4, none⟩) lh).trans (HS.out 4 (by omega))
              have g5 : wr.cell? ⟨gh, oh + 5, none⟩ = some (.int .u32 (s.f.toNat : Int)) := (hbr.cell (p := ⟨gh, oh + 5, none⟩) lh).trans (HS.out 5 (by omega))
              have g6 : wr.cell? ⟨gh, oh + 6, none⟩ = some (.int .u32 (s.g.toNat : Int)) := (hbr.cell (p := ⟨gh, oh + 6, none⟩) lh).trans (HS.out 6 (by omega))
              have g7 : wr.cell? ⟨gh, oh + 7, none⟩ = some (.int .u32 (s.h.toNat : Int)) := (hbr.cell (p := ⟨gh, oh + 7, none⟩) lh).trans (HS.out 7 (by omega))
              go_wp2_with fail
              go_region_held3 (fun w' => w'.cell? ⟨gh, oh, none⟩ = some (.int .u32 (s.a.toNat : Int)) ∧ w'.cell? ⟨gh, oh + 1, none⟩ = some (.int .u32 (s.b.toNat : Int)) ∧ w'.cell? ⟨gh, oh + 2, none⟩ = some (.int .u32 (s.c.toNat : Int)) ∧ w'.cell? ⟨gh, oh + 3, none⟩ = some (.int .u32 (s.d.toNat : Int)) ∧ w'.cell? ⟨gh, oh + 4, none⟩ = some (.int .u32 (s.e.toNat : Int)) ∧ w'.cell? ⟨gh, oh + 5, none⟩ = some (.int .u32 (s.f.toNat : Int)) ∧ w'.cell? ⟨gh, oh + 6, none⟩ = some (.int .u32 (s.g.toNat : Int)) ∧ w'.cell? ⟨gh, oh + 7, none⟩ = some (.int .u32 (s.h.toNat : Int))) (go_keep) (fail)
              go_wp2_with fail
              go_ret
              refine ⟨.slice (some ⟨wr.heap.size, 0, none⟩) 8 8, rfl, ?_, (hbr.alloc hbr.size _).drew⟩
              rw [wd_add, wd_add, wd_add, wd_add, wd_add, wd_add, wd_add, wd_add, ← hfin.out]
              exact (World.ownsRow_lit (base := w.heap.size) (size := 1) wr (stCells (addSt s q)).toArray 8 hbr.size (by decide) rfl).drew
end
section
open Go.RowKit
set_option linter.unusedVariables false
attribute [local go_sem ↓] Go.wp_at_zero Go.wp_at_succ
/-- The value shows the words of a state. -/
def SeesW (w : World) (B : Nat) (v : Value) (l : List Wd) : Prop := Sees w B v 1 l.length (l.map wdV)
theorem rfirst_any (w : World) : Calls Tryz.prog 34 #[] w fun e w' => ∃ v, e = .returned v ∧ SeesW w' w'.heap.size v (stList st0) ∧ Below w.heap.size w w' := by
  go_enter Tryz.func34, Tryz.ntmps34
  go_wp2
  go_ret
  refine ⟨.slice (some ⟨w.heap.size, 0, none⟩) 8 8, rfl, ?_, (Below.refl _ _).alloc (Nat.le_refl _) _⟩
  have h := (World.ownsRow_lit (base := w.heap.size) (e := 114) (size := 1) w ((stList st0).map wdV).toArray 8 (Nat.le_refl _) (by unfold maxLen; omega) rfl)
  exact Sees.of_own h
set_option maxHeartbeats 8000000 in
set_option maxRecDepth 100000 in
theorem rconst_any (w : World) : Calls Tryz.prog 35 #[] w fun e w' => ∃ v, e = .returned v ∧ SeesW w' w'.heap.size v kTab ∧ Below w.heap.size w w' := by
  go_enter Tryz.func35, Tryz.ntmps35
  go_wp2
  go_ret
  refine ⟨.slice (some ⟨w.heap.size, 0, none⟩) 64 64, rfl, ?_, (Below.refl _ _).alloc (Nat.le_refl _) _⟩
  have h := (World.ownsRow_lit (base := w.heap.size) (e := 114) (size := 1) w (kTab.map wdV).toArray 64 (Nat.le_refl _) (by unfold maxLen; omega) rfl)
  exact Sees.of_own h
end
section
open Go.RowKit
set_option linter.unusedVariables false
attribute [local go_sem ↓] Go.wp_at_zero Go.wp_at_succ
def BlockPost (gh : Nat) (T : TypeId) (s : St) (bs : Bs) (w : World) (e : Ending) (w' : World) : Prop :=
  e = .returned (.tuple #[]) ∧ w'.rowIs gh T 8 (fun i => wdV (stAt (compress s bs) i)) ∧ w.grownBy w' (some gh)
set_option maxRecDepth 100000 in
set_option maxHeartbeats 4000000 in
theorem block_any (gh kg gb ob c : Nat) (T T' : TypeId) (s : St) (bs : Bs) (w : World) (hlen : bs.length = 64)
    (hs : w.rowIs gh T 8 (fun i => wdV (stAt s i))) (hk : w.rowIs kg T' 64 (fun t => wdV (kAt t))) (hgb : gb < w.heap.size)
    (hb : ∀ j, j < 64 → w.cell? ⟨gb, ob + j, none⟩ = some (byV (bs.getD j 0))) :
    Calls Tryz.prog 139 #[.pointer (some ⟨gh, 0, none⟩), .slice (some ⟨gb, ob, none⟩) 64 c, .pointer (some ⟨kg, 0, none⟩)] w (BlockPost gh T s bs w) := by
  have HS := Lib.hid hs
  have HK := Lib.hid hk
  have HB := Lib.hid hb
  have l1 := hs.lt
  have l2 := hk.lt
  clear hs hk hb
  go_enter Tryz.func139, Tryz.ntmps139
  go_wp2_with fail
  refine wp_named (fun W => Hid (W.rowIs w.heap.size 115 64 (fun _ => wdV 0)) ∧ Below w.heap.size w W) ⟨rowIs_rep _ _ _ _ _ (by kernel_rfl), (Below.refl _ _).alloc (Nat.le_refl _) _⟩ ?_
  rintro W0 ⟨hW, hbw⟩
  go_loopw [20] (fun t wr => ∃ k : Nat, k ≤ 16 ∧ t = .int .i64 k ∧ Hid (wr.rowIs w.heap.size 115 64 (fun j => if j < k then wdV (wordAt bs j) else wdV 0)) ∧ Below w.heap.size w wr) (fun t _ => 16 - (intOf t).toNat)
  case atStart => exact ⟨0, by omega, rfl, hW.out.congr (fun _ _ => by simp), hbw⟩
  case round =>
    obtain ⟨k, hk16, rfl, hrow, hbr⟩ := hrel
    by_cases hlt : k < 16
    · have c0 := (hbr.cell (p := ⟨gb, ob + 4 * k, none⟩) hgb).trans (HB.out (4 * k) (by omega))
      have c1 := (hbr.cell (p := ⟨gb, ob + (4 * k + 1), none⟩) hgb).trans (HB.out (4 * k + 1) (by omega))
      have c2 := (hbr.cell (p := ⟨gb, ob + (4 * k + 2), none⟩) hgb).trans (HB.out (4 * k + 2) (by omega))
      have c3 := (hbr.cell (p := ⟨gb, ob + (4 * k + 3), none⟩) hgb).trans (HB.out (4 * k + 3) (by omega))
      have cw := hrow.out.cell (i := k) (by omega)
      have fw := hrow.out.frozen k
      have hw := word4_int (bs.getD (4 * k) 0) (bs.getD (4 * k + 1) 0) (bs.getD (4 * k + 2) 0) (bs.getD (4 * k + 3) 0)
      rw [if_neg (by omega)] at cw
      have Hw := Lib.hid hw
      clear hw
      unfold byV at c0 c1 c2 c3
      unfold wdV at cw
      have HX : Hid (word4 (bs.getD (4 * k) 0) (bs.getD (4 * k + 1) 0) (bs.getD (4 * k + 2) 0) (bs.getD (4 * k + 3) 0) = wordAt bs k) := rfl
      generalize bs.getD (4 * k) 0 = x0 at *
      generalize bs.getD (4 * k + 1) 0 = x1 at *
      generalize bs.getD (4 * k + 2) 0 = x2 at *
      generalize bs.getD (4 * k + 3) 0 = x3 at *
      have e0 : IntKind.i64.wrap (4 * (k : Int)) = 4 * (k : Int) := by rw [IntKind.wrap_i64]; omega
      have l0a : (0 : Int) ≤ 4 * (k : Int) := by omega
      have l0b : 4 * (k : Int) < 64 := by omega
      have t0 : (4 * (k : Int)).toNat = 4 * k := by omega
      have e1 : IntKind.i64.wrap (4 * (k : Int) + 1) = 4 * (k : Int) + 1 := by rw [IntKind.wrap_i64]; omega
      have l1a : (0 : Int) ≤ 4 * (k : Int) + 1 := by omega
      have l1b : 4 * (k : Int) + 1 < 64 := by omega
      have t1 : (4 * (k : Int) + 1).toNat = 4 * k + 1 := by omega
      have e2 : IntKind.i64.wrap (4 * (k : Int) + 2) = 4 * (k : Int) + 2 := by rw [IntKind.wrap_i64]; omega
      have l2a : (0 : Int) ≤ 4 * (k : Int) + 2 := by omega
      have l2b : 4 * (k : Int) + 2 < 64 := by omega
      have t2 : (4 * (k : Int) + 2).toNat = 4 * k + 2 := by omega
      have e3 : IntKind.i64.wrap (4 * (k : Int) + 3) = 4 * (k : Int) + 3 := by rw [IntKind.wrap_i64]; omega
      have l3a : (0 : Int) ≤ 4 * (k : Int) + 3 := by omega
      have l3b : 4 * (k : Int) + 3 < 64 := by omega
      have t3 : (4 * (k : Int) + 3).toNat = 4 * k + 3 := by omega
      have k0 : (0 : Int) ≤ (k : Int) := by omega
      have k1 : (k : Int) < 64 := by omega
      have hne : ¬ w.heap.size = gb := by omega
      go_wp2_with fail
      go_region_held3 (fun w' => w'.cell? ⟨gb, ob + 4 * k, none⟩ = some (.int .u8 x0.toNat) ∧ w'.cell? ⟨gb, ob + (4 * k + 1), none⟩ = some (.int .u8 x1.toNat) ∧ w'.cell? ⟨gb, ob + (4 * k + 2), none⟩ = some (.int .u8 x2.toNat) ∧ w'.cell? ⟨gb, ob + (4 * k + 3), none⟩ = some (.int .u8 x3.toNat)) (go_keep) (fail)
      go_wp2
      go_roundw
      case rel =>
        refine ⟨k + 1, by omega, by go_num, ?_, (hbr.setCell (Nat.le_refl _) _).drew⟩
        rw [Hw.out, HX.out]
        exact (hrow.out.set k _).congr (fun j hj => by
          by_cases h1 : j = k
          · subst h1; rw [if_pos rfl, if_pos (by omega)]; rfl
          · rw [if_neg h1]
            by_cases h2 : j < k
            · rw [if_pos h2, if_pos (by omega)]
            · rw [if_neg h2, if_neg (by omega)])
      case measure => simp [intOf]; omega
    · have hrow2 : Hid (wr.rowIs w.heap.size 115 64 (fun j => if j < 16 then wdV (sched (wordAt bs) j) else wdV 0)) := hrow.out.congr (fun j hj => by
        obtain rfl : k = 16 := by omega
        by_cases h2 : j < 16
        · rw [if_pos h2, if_pos h2, sched, if_pos h2]
        · rw [if_neg h2, if_neg h2])
      clear hrow hW hbw
      go_wp2_with fail
      obtain ⟨S, hS⟩ : ∃ S : Nat → Wd, S = sched (wordAt bs) := ⟨_, rfl⟩
      have hSt : Hid (∀ k, 16 ≤ k → sig1 (S (k - 2)) + S (k - 7) + sig0 (S (k - 15)) + S (k - 16) = S k) := fun k hk => by
        rw [hS]; exact ((sched_eq (wordAt bs) k).trans (if_neg (by omega))).symm
      rw [← hS] at hrow2
      have HSS := Lib.hid hS
      clear hS
      have hbr0 := hbr
      obtain ⟨wl, rfl⟩ : ∃ wl : World, wl = wr := ⟨_, rfl⟩
      go_loopw [8] (fun t wr => ∃ k : Nat, 16 ≤ k ∧ k ≤ 64 ∧ t = .int .i64 k ∧ Hid (wr.rowIs w.heap.size 115 64 (fun j => if j < k then wdV (S j) else wdV 0)) ∧ Below w.heap.size w wr) (fun t _ => 64 - (intOf t).toNat)
      case atStart => exact ⟨16, by omega, by omega, rfl, hrow2, hbr⟩
      case round =>
        obtain ⟨k, hk16, hk64, rfl, hrow, hbr⟩ := hrel
        by_cases hlt : k < 64
        · obtain ⟨k15, e15⟩ : ∃ m, k - 15 = m := ⟨_, rfl⟩
          obtain ⟨k2, e2⟩ : ∃ m, k - 2 = m := ⟨_, rfl⟩
          obtain ⟨k7, e7⟩ : ∃ m, k - 7 = m := ⟨_, rfl⟩
          obtain ⟨kk, e16⟩ : ∃ m, k - 16 = m := ⟨_, rfl⟩
          have c15 := hrow.out.cell (i := k15) (by omega)
          have c2 := hrow.out.cell (i := k2) (by omega)
          have c7 := hrow.out.cell (i := k7) (by omega)
          have c16 := hrow.out.cell (i := kk) (by omega)
          have cw := hrow.out.cell (i := k) (by omega)
          have fw := hrow.out.frozen k
          rw [if_pos (by omega)] at c15 c2 c7 c16
          rw [if_neg (by omega)] at cw
          have hst := hSt.out k hk16
          rw [e15, e2, e7, e16] at hst
          have w15 : IntKind.i64.wrap ((k : Int) - 15) = (k15 : Int) := by rw [IntKind.wrap_i64]; omega
          have w2 : IntKind.i64.wrap ((k : Int) - 2) = (k2 : Int) := by rw [IntKind.wrap_i64]; omega
          have w7 : IntKind.i64.wrap ((k : Int) - 7) = (k7 : Int) := by rw [IntKind.wrap_i64]; omega
          have w16 : IntKind.i64.wrap ((k : Int) - 16) = (kk : Int) := by rw [IntKind.wrap_i64]; omega
          have a15 : (0 : Int) ≤ (k15 : Int) := by omega
          have a2 : (0 : Int) ≤ (k2 : Int) := by omega
          have a7 : (0 : Int) ≤ (k7 : Int) := by omega
          have a16 : (0 : Int) ≤ (kk : Int) := by omega
          have d15 : (k15 : Int) < 64 := by omega
          have d2 : (k2 : Int) < 64 := by omega
          have d7 : (k7 : Int) < 64 := by omega
          have d16 : (kk : Int) < 64 := by omega
          have d0 : (k : Int) < 64 := by omega
          have a0 : (0 : Int) ≤ (k : Int) := by omega
          have hne7 : k ≠ k7 := by omega
          have hne16 : k ≠ kk := by omega
          unfold wdV at c15 c2 c7 c16 cw
          have HST := Lib.hid hst
          clear hst e15 e2 e7 e16
          generalize S k15 = x at c15 HST
          generalize S k2 = y at c2 HST
          generalize S k7 = p at c7 HST
          generalize S kk = q at c16 HST
          go_wp2_with fail
          go_quiet (fail)
          go_wp2_with (go_at_call 143; refine (rotate_any' _ _ _ rfl (by simp) _).mono ?_; rintro e w' ⟨rfl, rfl⟩)
          have hrow3 : Hid ((wr.drewN nq).rowIs w.heap.size 115 64 (fun j => if j < k then wdV (S j) else wdV 0)) := hrow
          have hbr3 := below_drewN hbr nq
          have z7 : (wr.drewN nq).cell? ⟨w.heap.size, k7, none⟩ = some (.int .u32 (p.toNat : Int)) := c7
          have z16 : (wr.drewN nq).cell? ⟨w.heap.size, kk, none⟩ = some (.int .u32 (q.toNat : Int)) := c16
          have zw : (wr.drewN nq).cell? ⟨w.heap.size, k, none⟩ = some (.int .u32 ((0 : Wd).toNat : Int)) := cw
          have zf : (wr.drewN nq).frozen? ⟨w.heap.size, k, none⟩ = false := fw
          clear c15 c2 c7 c16 cw fw hrow hbr w15 w2 a15 a2 d15 d2
          generalize wr.drewN nq = w3 at hrow3 hbr3 z7 z16 zw zf ⊢
          have y7 : ∀ v, (w3.setCell ⟨w.heap.size, k, none⟩ v).cell? ⟨w.heap.size, k7, none⟩ = some (.int .u32 (p.toNat : Int)) := fun v => (World.cell?_setCell_other _ _ _ _ (fun e => by injection e; omega)).trans z7
          have y16 : ∀ v, (w3.setCell ⟨w.heap.size, k, none⟩ v).cell? ⟨w.heap.size, kk, none⟩ = some (.int .u32 (q.toNat : Int)) := fun v => (World.cell?_setCell_other _ _ _ _ (fun e => by injection e; omega)).trans z16
          have HE := Lib.hid (sched_int x y p q)
          generalize bits .xor .u32 (bits .xor .u32 ((rotr y 17).toNat : Int) ((rotr y 19).toNat : Int)) ((y.toNat : Int) / 1024) = Y at HE ⊢
          generalize bits .xor .u32 (bits .xor .u32 ((rotr x 7).toNat : Int) ((rotr x 18).toNat : Int)) ((x.toNat : Int) / 8) = X at HE ⊢
          go_region_held3 (fun w' => w'.cell? ⟨w.heap.size, k7, none⟩ = some (.int .u32 (p.toNat : Int)) ∧ w'.cell? ⟨w.heap.size, kk, none⟩ = some (.int .u32 (q.toNat : Int))) (go_keep) (fail)
          go_wp2
          go_roundw
          case rel =>
            refine ⟨k + 1, by omega, by omega, by go_num, ?_, (hbr3.setCell (Nat.le_refl _) _).drew⟩
            rw [HE.out, HST.out]
            exact (hrow3.out.set k _).congr (fun j hj => by
              by_cases h1 : j = k
              · subst h1; rw [if_pos rfl, if_pos (by omega)]; rfl
              · rw [if_neg h1]
                by_cases h2 : j < k
                · rw [if_pos h2, if_pos (by omega)]
                · rw [if_neg h2, if_neg (by omega)])
          case measure => simp [intOf]; omega
        · have hrow2 : Hid (wr.rowIs w.heap.size 115 64 (fun j => wdV (S j))) := hrow.out.congr (fun j hj => by rw [if_pos (by omega)])
          clear hrow hbr0 hSt
          have g0 : wr.cell? ⟨gh, 0, none⟩ = some (.int .u32 (s.a.toNat : Int)) := (hbr.cell (p := ⟨gh, 0, none⟩) l1).trans (HS.out.cell (i := 0) (by omega))
          have g1 : wr.cell? ⟨gh, 1, none⟩ = some (.int .u32 (s.b.toNat : Int)) := (hbr.cell (p := ⟨gh, 1, none⟩) l1).trans (HS.out.cell (i := 1) (by omega))
          have g2 : wr.cell? ⟨gh, 2, none⟩ = some (.int .u32 (s.c.toNat : Int)) := (hbr.cell (p := ⟨gh, 2, none⟩) l1).trans (HS.out.cell (i := 2) (by omega))
          have g3 : wr.cell? ⟨gh, 3, none⟩ = some (.int .u32 (s.d.toNat : Int)) := (hbr.cell (p := ⟨gh, 3, none⟩) l1).trans (HS.out.cell (i := 3) (by omega))
          have g4 : wr.cell? ⟨gh, 4, none⟩ = some (.int .u32 (s.e.toNat : Int)) := (hbr.cell (p := ⟨gh, 4, none⟩) l1).trans (HS.out.cell (i := 4) (by omega))
          have g5 : wr.cell? ⟨gh, 5, none⟩ = some (.int .u32 (s.f.toNat : Int)) := (hbr.cell (p := ⟨gh, 5, none⟩) l1).trans (HS.out.cell (i := 5) (by omega))
          have g6 : wr.cell? ⟨gh, 6, none⟩ = some (.int .u32 (s.g.toNat : Int)) := (hbr.cell (p := ⟨gh, 6, none⟩) l1).trans (HS.out.cell (i := 6) (by omega))
          have g7 : wr.cell? ⟨gh, 7, none⟩ = some (.int .u32 (s.h.toNat : Int)) := (hbr.cell (p := ⟨gh, 7, none⟩) l1).trans (HS.out.cell (i := 7) (by omega))
          go_wp2_with fail
          clear g0 g1 g2 g3 g4 g5 g6 g7
          have hz := hbr.size
          have hlw : w.heap.size < wr.heap.size := hrow2.out.lt
          refine wp_named (fun W => Hid (W.heap[wr.heap.size]? = some (.cells (stCells s).toArray 163)) ∧ Hid (W.rowIs w.heap.size 115 64 (fun j => wdV (S j))) ∧ Below w.heap.size w W ∧ wr.heap.size < W.heap.size) ⟨heap_alloc_new wr _, hrow2.out.alloc _, hbr.alloc hz _, by simp⟩ ?_
          rintro W1 ⟨hv, hrow3, hbw1, hlv⟩
          obtain ⟨gv, hgv⟩ : ∃ gv, gv = wr.heap.size := ⟨_, rfl⟩
          rw [← hgv] at hv hlv ⊢
          have HGV := Lib.hid hgv
          have hlw' : w.heap.size < gv := by omega
          clear hgv hbr hrow2
          go_loopw [105] (fun t wr => ∃ k : Nat, k ≤ 64 ∧ t = .int .i64 k ∧ Hid (wr.heap[gv]? = some (.cells (stCells (rnds s S k)).toArray 163)) ∧ Hid (wr.rowIs w.heap.size 115 64 (fun j => wdV (S j))) ∧ Below w.heap.size w wr ∧ gv < wr.heap.size) (fun t _ => 64 - (intOf t).toNat)
          case atStart => exact ⟨0, by omega, rfl, hv, hrow3, hbw1, hlv⟩
          case round =>
            clear hv hrow3 hbw1 hlv
            obtain ⟨m, hm64, rfl, hvr, hwr, hbr, hlv⟩ := hrel
            by_cases hlt3 : m < 64
            · have hnext : Hid (rnds s S (m + 1) = rnd (rnds s S m) (kAt m) (S m)) := rfl
              have ck := (hbr.cell (p := ⟨kg, m, none⟩) l2).trans (HK.out.cell (i := m) hlt3)
              have cS := hwr.out.cell (i := m) hlt3
              unfold wdV at ck cS
              generalize kAt m = km at ck hnext
              generalize S m = sm at cS hnext
              generalize rnds s S m = q at hvr hnext ⊢
              have v0 : wr.cell? ⟨gv, 0, none⟩ = some (.int .u32 (q.a.toNat : Int)) := (cell_of_row wr gv 0 _ _ _ hvr.out).trans rfl
              have v1 : wr.cell? ⟨gv, 1, none⟩ = some (.int .u32 (q.b.toNat : Int)) := (cell_of_row wr gv 1 _ _ _ hvr.out).trans rfl
              have v2 : wr.cell? ⟨gv, 2, none⟩ = some (.int .u32 (q.c.toNat : Int)) := (cell_of_row wr gv 2 _ _ _ hvr.out).trans rfl
              have v3 : wr.cell? ⟨gv, 3, none⟩ = some (.int .u32 (q.d.toNat : Int)) := (cell_of_row wr gv 3 _ _ _ hvr.out).trans rfl
              have v4 : wr.cell? ⟨gv, 4, none⟩ = some (.int .u32 (q.e.toNat : Int)) := (cell_of_row wr gv 4 _ _ _ hvr.out).trans rfl
              have v5 : wr.cell? ⟨gv, 5, none⟩ = some (.int .u32 (q.f.toNat : Int)) := (cell_of_row wr gv 5 _ _ _ hvr.out).trans rfl
              have v6 : wr.cell? ⟨gv, 6, none⟩ = some (.int .u32 (q.g.toNat : Int)) := (cell_of_row wr gv 6 _ _ _ hvr.out).trans rfl
              have v7 : wr.cell? ⟨gv, 7, none⟩ = some (.int .u32 (q.h.toNat : Int)) := (cell_of_row wr gv 7 _ _ _ hvr.out).trans rfl
              have m0 : (0 : Int) ≤ (m : Int) := by omega
              have m1 : (m : Int) < 64 := by omega
              go_wp2_with fail
              go_quiet (fail)
              go_wp2_with fail
              go_quiet ((go_at_call 143; exact quiet_on (rotate_q _ _ _ rfl (by simp) _)))
              go_wp2_with fail
              rw [tOne_int q km sm]
              go_quiet ((go_at_call 143; exact quiet_on (rotate_q _ _ _ rfl (by simp) _)))
              go_wp2_with fail
              rw [tTwo_int q]
              have hnx := hnext.out
              rw [rnd_eq] at hnx
              have HN := Lib.hid hnx
              clear hnx hnext
              refine wp_world (fun W => Hid (W.heap[gv]? = some (.cells (stCells q).toArray 163)) ∧ Hid (W.rowIs w.heap.size 115 64 (fun j => wdV (S j))) ∧ Below w.heap.size w W ∧ gv < W.heap.size) ⟨hvr, hwr, below_drewN (below_drewN hbr _) _, hlv⟩ ?_
              clear v0 v1 v2 v3 v4 v5 v6 v7 ck cS hvr hwr hbr hlv
              rintro W3 ⟨hvr, hwr, hbr, hlv⟩
              generalize tOne q km sm = p1 at HN ⊢
              generalize tTwo q = p2 at HN ⊢
              have hsz : (Tryz.prog.info? 114).map (·.size) = some 1 := by kernel_rfl
              go_region_law (refine step_copy_splice rfl (.tmp 168) (.tmp 169) 78 78 rfl 114 Tryz.underlying78 hsz (some ⟨gv, 1, none⟩) (some ⟨gv, 0, none⟩) 7 7 7 8 (by simp [Act.eval, Act.put]) (by simp [Act.eval, Act.put]) gv 1 (stCells q) 163 hvr.out ((stCells q).take 7) rfl (fun _ => ⟨rfl, ⟨gv, 0, none⟩, rfl, fun j v hj => take_cells hvr.out j v hj⟩) (by simp [stCells]) (by simp [stCells, Value.oneCell']) gv _ (Below.refl _ _) (Nat.le_refl _) ?_; intro W4 hg4 hb4)
              have hvr4 : W4.heap[gv]? = some (.cells #[.int .u32 (q.a.toNat : Int), .int .u32 (q.a.toNat : Int), .int .u32 (q.b.toNat : Int), .int .u32 (q.c.toNat : Int), .int .u32 (q.d.toNat : Int), .int .u32 (q.e.toNat : Int), .int .u32 (q.f.toNat : Int), .int .u32 (q.g.toNat : Int)] 163) := hg4.out
              have hwr4 : Hid (W4.rowIs w.heap.size 115 64 (fun j => wdV (S j))) := hwr.out.of_block (hb4.block _ hlw')
              have hbr4 : Below w.heap.size w W4 := hbr.drew.trans (hb4.mono (Nat.le_of_lt hlw'))
              have hlv4 : gv < W4.heap.size := Nat.lt_of_lt_of_le hlv hb4.size
              have y0 := (cell_of_row W4 gv 0 _ _ _ hvr4).trans rfl
              have y4 := (cell_of_row W4 gv 4 _ _ _ hvr4).trans rfl
              have yf : ∀ o, W4.frozen? ⟨gv, o, none⟩ = false := fun o => by simp [World.frozen?, hvr4]
              have HV4 := Lib.hid hvr4
              clear hvr4 hg4 hb4 hvr hwr hbr hlv hsz
              go_wp2
              go_roundw
              case rel =>
                refine ⟨m + 1, by omega, by go_num, ?_, ?_, (hbr4.setCell (by dsimp only; omega) _).setCell (by dsimp only; omega) _, by simp [World.setCell]; omega⟩
                · rw [HN.out, wd_add', wd_add']
                  exact set_block _ gv 0 _ (set_block W4 gv 4 _ HV4.out)
                · exact (hwr4.out.setOther (by dsimp only; omega) _).setOther (by dsimp only; omega) _
              case measure => simp [intOf]; omega
            · have hq : Hid (compress s bs = addSt s (rnds s S m)) := by
                obtain rfl : m = 64 := by omega
                unfold compress
                rw [HSS.out]; rfl
              generalize rnds s S m = q at hvr hq
              go_wp2_with fail
              have hrv := Lib.hid (stCells_row hvr.out)
              have hrh : Hid (wr.rowIs gh T 8 (fun j => if j < 0 then wdV (stAt (addSt s q) j) else wdV (stAt s j))) := (HS.out.of_block (hbr.block _ l1)).congr (fun j _ => by rw [if_neg (by omega)])
              have hgr := grown_of_below hbr (some gh)
              clear hvr hwr
              obtain ⟨wl2, rfl⟩ : ∃ wl2 : World, wl2 = wr := ⟨_, rfl⟩
              go_loopw [181] (fun t wr => ∃ m : Nat, m ≤ 8 ∧ t = .int .i64 m ∧ Hid (wr.rowIs gh T 8 (fun j => if j < m then wdV (stAt (addSt s q) j) else wdV (stAt s j))) ∧ Hid (wr.rowIs gv 163 8 (fun j => wdV (stAt q j))) ∧ w.grownBy wr (some gh)) (fun t _ => 8 - (intOf t).toNat)
              case atStart => exact ⟨0, by omega, rfl, hrh, hrv, hgr⟩
              case round =>
                clear hrh hrv hgr hbr hlv
                obtain ⟨i, hi8, rfl, hrh, hrv, hgr⟩ := hrel
                by_cases hi : i < 8
                · have ch := hrh.out.cell (i := i) hi
                  have cv := hrv.out.cell (i := i) hi
                  have fh := hrh.out.frozen i
                  rw [if_neg (by omega)] at ch
                  unfold wdV at ch cv
                  have hadd := Lib.hid (addSt_at s q i hi)
                  generalize stAt s i = x at ch hadd
                  generalize stAt q i = y at cv hadd
                  have i0 : (0 : Int) ≤ (i : Int) := by omega
                  have i1 : (i : Int) < 8 := by omega
                  have hne : ¬ gh = gv := by omega
                  have ych : ∀ v, (wr.setCell ⟨gh, i, none⟩ v).cell? ⟨gv, i, none⟩ = some (.int .u32 (y.toNat : Int)) := fun v => (World.cell?_setCell_other _ _ _ _ (fun e => by injection e; omega)).trans cv
                  go_wp2_with fail
                  go_region
                  go_wp2
                  go_roundw
                  case rel =>
                    refine ⟨i + 1, by omega, by go_num, ?_, hrv.out.setOther (by dsimp only; omega) _, grown_drew (only_setCell hgr (.inl rfl) _)⟩
                    rw [wd_add', hadd.out]
                    exact (hrh.out.set i _).congr (fun j hj => by
                      by_cases h1 : j = i
                      · subst h1; rw [if_pos rfl, if_pos (by omega)]; rfl
                      · rw [if_neg h1]
                        by_cases h2 : j < i
                        · rw [if_pos h2, if_pos (by omega)]
                        · rw [if_neg h2, if_neg (by omega)])
                  case measure => simp [intOf]; omega
                · go_wp2_with fail
                  go_end0
                  exact ⟨rfl, by rw [hq.out]; exact hrh.out.congr (fun j hj => by rw [if_pos (by omega)]), hgr⟩
end
section
open Go.RowKit
set_option linter.unusedVariables false
attribute [local go_sem ↓] Go.wp_at_zero Go.wp_at_succ
theorem ggo {a b c : World} {g : Nat} (h1 : a.grownBy b (some g)) (h2 : b.grownBy c (some g)) : a.grownBy c (some g) :=
  ⟨h2.os.trans h1.os, h2.tape.trans h1.tape, h2.output.trans h1.output, Nat.le_trans h1.size h2.size, fun k hk hne => (h2.block k (Nat.lt_of_lt_of_le hk h1.size) hne).trans (h1.block k hk hne)⟩
theorem gbelow {a b : World} {g : Nat} (h : Below a.heap.size a b) : a.grownBy b (some g) := grown_of_below h _
def WholePost (gh : Nat) (T : TypeId) (s : St) (B : Nat) (bs : Bs) (w : World) (e : Ending) (w' : World) : Prop :=
  ∃ v, e = .returned v ∧ SeesB w' B v (bs.drop (64 * (bs.length / 64))) ∧ w'.rowIs gh T 8 (fun i => wdV (stAt (absorb s bs (bs.length / 64)) i)) ∧ w.grownBy w' (some gh)
set_option maxRecDepth 100000 in
theorem whole_any (gh : Nat) (T : TypeId) (s : St) (B : Nat) (u : Value) (bs : Bs) (w : World) (hs : w.rowIs gh T 8 (fun i => wdV (stAt s i))) (hB : B ≤ w.heap.size) (hu : ∀ w', w.grownBy w' (some gh) → SeesB w' B u bs) :
    Calls Tryz.prog 133 #[.pointer (some ⟨gh, 0, none⟩), u] w (WholePost gh T s B bs w) := by
  have hs := Lib.hid hs
  have hgh := hs.out.lt
  have hu := Lib.hid hu
  go_enter Tryz.func133, Tryz.ntmps133
  go_wp2_with fail
  refine (constants_any _).mono ?_
  rintro e w1 ⟨rfl, hk1, hb1⟩
  have hg1 : Hid (w.grownBy w1 (some gh)) := gbelow hb1
  have hs1 := Lib.hid (hs.out.of_block (hb1.block _ hgh))
  obtain ⟨kg, hkg⟩ : ∃ kg, kg = w.heap.size := ⟨_, rfl⟩
  rw [← hkg] at hk1 ⊢
  have hne : kg ≠ gh := by omega
  clear hkg
  have hk1 := Lib.hid hk1
  dsimp only
  go_wp2_with fail
  go_loopw [1] (fun v wr => ∃ k : Nat, 64 * k ≤ bs.length ∧ Hid (∀ w', w.grownBy w' (some gh) → SeesB w' B v (bs.drop (64 * k))) ∧ Hid (wr.rowIs kg 115 64 (fun t => wdV (kAt t))) ∧ Hid (wr.rowIs gh T 8 (fun i => wdV (stAt (absorb s bs k) i))) ∧ Hid (w.grownBy wr (some gh))) (fun v _ => (match v with | .slice _ n _ => n | _ => 0))
  case atStart => exact ⟨0, by omega, hu, hk1, hs1, hg1⟩
  case round =>
    clear hs1 hg1 hk1
    obtain ⟨k, hk, hv, hkr, hsr, hgr⟩ := hrel
    obtain ⟨A, c, rfl, hc1, hc2⟩ := (hv.out _ hgr.out).mk_
    have hdrop : Hid (bs.drop (64 * (k + 1)) = (bs.drop (64 * k)).drop 64) := by show _ = _; rw [List.drop_drop]; congr 1
    have hcomp : Hid (absorb s bs (k + 1) = compress (absorb s bs k) ((bs.drop (64 * k)).take 64)) := rfl
    have hlen : (bs.drop (64 * k)).length = bs.length - 64 * k := List.length_drop
    have hend : Hid (bs.drop (64 * k) = bs.drop (64 * k)) := rfl
    generalize hl : bs.drop (64 * k) = l at hdrop hcomp hlen hv hc1 ⊢
    have hl := Lib.hid hl
    have HL := Lib.hid hlen
    clear hlen
    generalize hq : absorb s bs k = q at hcomp hsr ⊢
    have hq := Lib.hid hq
    clear hend
    by_cases h64 : 64 ≤ l.length
    · have i64 : (64 : Int) ≤ (l.length : Int) := by omega
      have r2 := run_cut_from (P := Tryz.prog) 23 Tryz.underlying23 1 byte_size A l.length c .i64 64 (by omega) (by omega)
      rw [show (64 : Int).toNat = 64 from rfl] at r2
      have hv2 : Hid (∀ w', w.grownBy w' (some gh) → SeesB w' B (.slice (cutA A c 64 1) (l.length - 64) (c - 64)) (l.drop 64)) := fun w' hg => by
        have := SeesB.cut (a := 64) (b := l.length) (hv.out w' hg) h64 (Nat.le_refl _)
        rw [List.take_of_length_le (by rw [List.length_drop]; omega)] at this
        exact this
      generalize cutA A c 64 1 = A2 at r2 hv2
      have ht : (l.take 64).length = 64 := by rw [List.length_take]; omega
      obtain ⟨b, o, rfl, hbB, hcell⟩ := (hv.out _ hgr.out).at_ (by omega)
      have hcell : Hid (∀ j, j < 64 → wr.cell? ⟨b, o + j, none⟩ = some (byV ((l.take 64).getD j 0))) := fun j hj => by
        rw [hcell j (by omega), List.getD_eq_getElem?_getD, List.getD_eq_getElem?_getD, List.getElem?_take, if_pos hj]
      have ht := Lib.hid ht
      have hbB := Lib.hid hbB
      clear hv
      go_wp2_with fail
      refine (block_any gh kg b o c T 115 q (l.take 64) wr ht.out hsr.out hkr.out (Nat.lt_of_lt_of_le hbB.out (Nat.le_trans hB hgr.out.size)) hcell.out).mono ?_
      rintro e w2 ⟨rfl, hs2, hg2⟩
      have hgr2 := Lib.hid (ggo hgr.out hg2)
      have hk2 := Lib.hid (hkr.out.of_block (hg2.block _ hkr.out.lt (by simpa using hne)))
      have hs2 := Lib.hid hs2
      clear hkr hsr hgr hg2
      dsimp only
      go_wp2_with fail
      go_roundw
      case rel =>
        refine ⟨k + 1, by have := HL.out; omega, ?_, hk2, ?_, hgr2⟩
        · rw [hdrop.out]; exact hv2
        · rw [hcomp.out]; exact hs2
      case measure => dsimp only; have := HL.out; omega
    · have i64 : ¬ ((64 : Int) ≤ (l.length : Int)) := by omega
      have hk64 : k = bs.length / 64 := by have := HL.out; omega
      have hf : Hid (SeesB wr B (.slice A l.length c) (bs.drop (64 * (bs.length / 64))) ∧ wr.rowIs gh T 8 (fun i => wdV (stAt (absorb s bs (bs.length / 64)) i))) := by
        rw [← hk64, hl.out, hq.out]; exact ⟨hv.out _ hgr.out, hsr.out⟩
      clear hk64 hv
      go_wp2_with fail
      go_ret
      exact ⟨_, rfl, hf.out.1, hf.out.2, hgr.out⟩
end
section
open Go.RowKit
set_option linter.unusedVariables false
attribute [local go_sem ↓] Go.wp_at_zero Go.wp_at_succ
theorem put8_nat (n : Nat) (h : n < 18446744073709551616) (w : World) : Calls Tryz.prog 48 #[.int .u64 (n : Int), .int .i64 8] w (Gives (putB 8 n) w) := put_any n 8 (by omega) h w
theorem sees_cells {w : World} {B : Nat} {A : Option Addr} {n c : Nat} {l : Bs} (h : SeesB w B (.slice A n c) l) (h0 : 0 < (vb l).length) : ∃ ad, A = some ad ∧ ∀ j v, (vb l)[j]? = some v → w.cell? (ad.add j) = some v := by
  rw [vb_len] at h0
  obtain ⟨b, o, rfl, _, hc⟩ := h.at_ h0
  refine ⟨_, rfl, fun j v hj => ?_⟩
  rw [vb_get] at hj
  obtain ⟨x, hx, rfl⟩ := Option.map_eq_some_iff.1 hj
  rw [add_zero', hc j (List.getElem?_eq_some_iff.1 hx).1, List.getD_eq_getElem?_getD, hx]
  rfl
theorem box_sees {w : World} {g : Nat} {T : TypeId} {L : Bs} (h : Box w g T (vb L)) (n c : Nat) (hn : n ≤ L.length) (hc : n ≤ c) (hm : c ≤ maxLen) (B : Nat) (hB : g < B) : SeesB w B (.slice (some ⟨g, 0, none⟩) n c) (L.take n) := by
  have hl : (L.take n).length = n := by rw [List.length_take]; omega
  unfold SeesB
  rw [hl]
  refine ⟨by rw [vb_len, hl, Nat.mul_one], _, _, rfl, hc, hm, fun _ => ⟨g, 0, rfl, hB, fun j u hu => ?_⟩⟩
  rw [vb_get, List.getElem?_take] at hu
  split at hu
  · rw [Nat.zero_add, h.cell, vb_get]; exact hu
  · cases hu
theorem make_32 (W : World) : (Instr.makeSlice 23 (.int .i64 0) (.int .i64 32)).run Tryz.prog W = .ok (.slice (some ⟨W.heap.size, 0, none⟩) 0 32) (W.alloc (.cells (vb (List.replicate 32 0)).toArray 5)) := by
  obtain ⟨i, hi, hz, hs, hb⟩ := info_parts byte_info
  have h := run_make (P := Tryz.prog) W 23 5 i (.int .u8 0) Tryz.underlying23 hi hz .i64 .i64 0 32 (by omega) (by omega) (by rw [hb]; omega) (by omega)
  rw [h, hs, ← vb_rep, ← toList_madeCells_one]
  rfl
theorem words_index (q : St) (k : Nat) (hk : k < 8) (W : World) : (Instr.index 163 (.agg #[.int .u32 (q.a.toNat : Int), .int .u32 (q.b.toNat : Int), .int .u32 (q.c.toNat : Int), .int .u32 (q.d.toNat : Int), .int .u32 (q.e.toNat : Int), .int .u32 (q.f.toNat : Int), .int .u32 (q.g.toNat : Int), .int .u32 (q.h.toNat : Int)]) (.int .i64 (k : Int))).run Tryz.prog W = .ok (.int .u32 ((stAt q k).toNat : Int)) W := by
  rcases (by omega : k = 0 ∨ k = 1 ∨ k = 2 ∨ k = 3 ∨ k = 4 ∨ k = 5 ∨ k = 6 ∨ k = 7) with rfl | rfl | rfl | rfl | rfl | rfl | rfl | rfl
  all_goals kernel_rfl
theorem out_step (q : St) (k : Nat) (hk : k < 8) : outOf ((stList q).take (k + 1)) = outOf ((stList q).take k) ++ putB 4 (stAt q k).toNat := by
  rcases (by omega : k = 0 ∨ k = 1 ∨ k = 2 ∨ k = 3 ∨ k = 4 ∨ k = 5 ∨ k = 6 ∨ k = 7) with rfl | rfl | rfl | rfl | rfl | rfl | rfl | rfl
  all_goals simp [outOf, stList, stAt]
theorem put4 (x : Wd) : vb (putB 4 x.toNat) = [.int .u8 ((x.toNat : Int) / 16777216), .int .u8 ((x.toNat : Int) / 65536 % 256), .int .u8 ((x.toNat : Int) / 256 % 256), .int .u8 ((x.toNat : Int) % 256)] := by
  have hx := x.isLt
  generalize x.toNat = n at hx
  have e1 : (n : Int) / 16777216 = ((n / 256 / 256 / 256 : Nat) : Int) % 256 := by omega
  have e2 : (n : Int) / 65536 = ((n / 256 / 256 : Nat) : Int) := by omega
  have e3 : (n : Int) / 256 = ((n / 256 : Nat) : Int) := by omega
  rw [e1, e2, e3, byV_nat, byV_nat, byV_nat, byV_nat]
  rfl
theorem vb_splice (L : Bs) (o : Nat) (r : Bs) : splice (vb L) o (vb r) = vb (splice L o r) := by simp [splice, vb, List.map_take, List.map_drop]
theorem elem_size (W : World) : (sizeOf (Tryz.prog.elem 171)).run Tryz.prog W = .ok 1 W := by kernel_rfl
set_option maxRecDepth 100000 in
theorem cut_from (b l : Nat) (hl : l ≤ 128) (h0 : l ≠ 128) (x : Int) (hx : x = (l : Int)) (W : World) : (Instr.sliceAt 171 (.pointer (some ⟨b, 0, none⟩)) (some (.int .i64 x)) none none).run Tryz.prog W = .ok (.slice (some ⟨b, l, none⟩) (128 - l) (128 - l)) W := by
  subst hx
  have ha : Tryz.prog.arrayLen 171 = 128 := by kernel_rfl
  have h := run_sliceAt_array_l (P := Tryz.prog) W 171 ⟨b, 0, none⟩ Tryz.underlying171 .i64 (l : Int) (by omega) (by rw [ha]; omega)
  rw [h, elem_size, ha]
  show Result.ok _ _ = _
  rw [slicedAt, Int.toNat_natCast, if_neg (fun e => h0 e.symm), add_zero', Nat.mul_one, Nat.zero_add]
set_option maxRecDepth 100000 in
theorem cut_upto (b l : Nat) (hl : l ≤ 128) (x : Int) (hx : x = (l : Int)) (W : World) : (Instr.sliceAt 171 (.pointer (some ⟨b, 0, none⟩)) none (some (.int .i64 x)) none).run Tryz.prog W = .ok (.slice (some ⟨b, 0, none⟩) l 128) W := by
  subst hx
  have ha : Tryz.prog.arrayLen 171 = 128 := by kernel_rfl
  have h := run_sliceAt_array_h (P := Tryz.prog) W 171 ⟨b, 0, none⟩ Tryz.underlying171 .i64 (l : Int) (by omega) (by rw [ha]; omega)
  rw [h, elem_size, ha]
  show Result.ok _ _ = _
  rw [slicedAt, Int.toNat_natCast, if_neg (by decide), add_zero']
  rfl
def szOf (n : Nat) : Nat := if n + 9 ≤ 64 then 64 else 128
theorem pad_len (n count : Nat) (h : n < 64) : n + (padding n count).length = szOf n := by
  unfold padding szOf
  split
  · simp [putB_len]; omega
  · simp [putB_len]; omega
def endOf (rest : Bs) (count : Nat) : Bs := splice ((splice (List.replicate 128 0) 0 rest).set rest.length 128) (szOf rest.length - 8) (putB 8 (count * 8))
theorem end_take (rest : Bs) (count : Nat) (h : rest.length < 64) : (endOf rest count).take (szOf rest.length) = rest ++ padding rest.length count := by
  have e1 : splice (List.replicate 128 0) 0 rest = rest ++ List.replicate (128 - rest.length) (0 : UInt8) := by
    unfold splice
    rw [List.take_zero, List.nil_append, Nat.zero_add, List.drop_replicate]
  have e2 : (splice (List.replicate 128 0) 0 rest).set rest.length 128 = rest ++ 128 :: List.replicate (127 - rest.length) (0 : UInt8) := by
    rw [e1, show 128 - rest.length = (127 - rest.length) + 1 from by omega, List.replicate_succ, List.set_append_right _ _ (Nat.le_refl _)]
    simp
  have e3 : szOf rest.length - 8 + 8 = szOf rest.length := by unfold szOf; split <;> rfl
  have e4 : (rest ++ 128 :: List.replicate (127 - rest.length) (0 : UInt8)).take (szOf rest.length - 8) = rest ++ 128 :: List.replicate (if rest.length + 9 ≤ 64 then 55 - rest.length else 119 - rest.length) 0 := by
    rw [List.take_append, List.take_of_length_le (by unfold szOf; split <;> omega)]
    congr 1
    have : szOf rest.length - 8 - rest.length = (if rest.length + 9 ≤ 64 then 55 - rest.length else 119 - rest.length) + 1 := by unfold szOf; split <;> omega
    rw [this, List.take_succ_cons, List.take_replicate]
    congr 2
    split <;> omega
  unfold endOf
  rw [e2]
  unfold splice
  rw [List.take_append, List.length_take, e4, List.take_of_length_le (by rw [← e4, List.length_take]; omega), List.take_append_of_le_length (by rw [putB_len]; simp; unfold szOf; split <;> omega), List.take_of_length_le (by rw [putB_len]; simp; unfold szOf; split <;> omega)]
  simp [padding]
set_option maxRecDepth 100000 in
theorem finish_any (s : St) (B : Nat) (u : Value) (rest : Bs) (count : Nat) (w : World) (hu : SeesB w B u rest) (hB : B ≤ w.heap.size) (hr : rest.length < 64) (hcount : count ≤ 1099511627776) :
    Calls Tryz.prog 134 #[.agg #[wdV s.a, wdV s.b, wdV s.c, wdV s.d, wdV s.e, wdV s.f, wdV s.g, wdV s.h], u, .int .i64 (count : Int)] w (Gives (finish s rest count) w) := by
  obtain ⟨A, c, rfl, hc1, hc2⟩ := hu.mk_
  have hsz : (Tryz.prog.info? 5).map (·.size) = some 1 := by kernel_rfl
  obtain ⟨L0, hL0⟩ : ∃ L0 : Bs, L0 = List.replicate 128 0 := ⟨_, rfl⟩
  have hzero : Tryz.zeroCells171 = (vb (L0)).toArray := by rw [hL0, ← vb_rep]; kernel_rfl
  have hb0 := bgo (balloc w (.cells #[wdV s.a, wdV s.b, wdV s.c, wdV s.d, wdV s.e, wdV s.f, wdV s.g, wdV s.h] 163)) (balloc _ (.cells Tryz.zeroCells171 171))
  have hbx := Box.new (w.alloc (.cells #[wdV s.a, wdV s.b, wdV s.c, wdV s.d, wdV s.e, wdV s.f, wdV s.g, wdV s.h] 163)) 171 (vb (L0))
  have hbw := (Box.new w 163 (stCells s)).below (balloc _ (.cells Tryz.zeroCells171 171))
  rw [← hzero, World.size_alloc] at hbx
  have hu1 := hu.below (hb0.mono hB)
  have hpos : 0 < (vb rest).length → ∃ ad, A = some ad ∧ ∀ j v, (vb rest)[j]? = some v → ((w.alloc (.cells #[wdV s.a, wdV s.b, wdV s.c, wdV s.d, wdV s.e, wdV s.f, wdV s.g, wdV s.h] 163)).alloc (.cells Tryz.zeroCells171 171)).cell? (ad.add j) = some v := fun h0 => by
    rw [vb_len] at h0
    obtain ⟨b, o, rfl, _, hc⟩ := hu1.at_ h0
    refine ⟨_, rfl, fun j v hj => ?_⟩
    rw [vb_get] at hj
    obtain ⟨x, hx, rfl⟩ := Option.map_eq_some_iff.1 hj
    rw [add_zero', hc j (List.getElem?_eq_some_iff.1 hx).1, List.getD_eq_getElem?_getD, hx]
    rfl
  have hn : (vb rest).length = Nat.min rest.length 128 := by rw [vb_len]; exact (Nat.min_eq_left (by omega)).symm
  have hfit : 0 + (vb rest).length ≤ (vb (L0)).length := by rw [vb_len, vb_len, hL0, List.length_replicate]; omega
  replace hbx := Lib.hid hbx
  replace hbw := Lib.hid hbw
  replace hb0 := Lib.hid hb0
  replace hpos := Lib.hid hpos
  replace hn := Lib.hid hn
  replace hfit := Lib.hid hfit
  replace hzero := Lib.hid hzero
  replace hL0 := Lib.hid hL0
  clear hu hu1
  go_enter Tryz.func134, Tryz.ntmps134
  go_wp2_with (refine wpList_copy_splice rfl (.tmp 13) (.tmp 14) 23 23 rfl 5 Tryz.underlying23 hsz (some ⟨w.heap.size + 1, 0, none⟩) A 128 128 rest.length c (by rfl) (by rfl) (w.heap.size + 1) 0 (vb (L0)) 171 hbx.out (vb rest) hn.out (fun h => ⟨rfl, hpos.out h⟩) hfit.out (vb_one _) (w.heap.size + 1) _ (Below.refl _ _) (Nat.le_refl _) ?_)
  intro w2 hx2 hb2
  have hbw2 : Box w2 w.heap.size 163 (stCells s) := (hb2.block w.heap.size (by omega)).trans hbw.out
  have hall := hb0.out.trans (hb2.mono (by omega))
  have hx2 : Box w2 (w.heap.size + 1) 171 (vb (splice L0 0 rest)) := by have := hx2.out; rw [vb_splice] at this; exact this
  have hL1 : (splice L0 0 rest).length = 128 := by rw [length_splice _ _ _ (by rw [hL0.out, List.length_replicate]; omega), hL0.out, List.length_replicate]
  have hE : Hid (endOf rest count = splice ((splice L0 0 rest).set rest.length 128) (szOf rest.length - 8) (putB 8 (count * 8))) := by rw [hL0.out]; exact rfl
  have hn2 : (vb rest).length = rest.length := vb_len rest
  clear hbx hbw hpos hn hfit hzero hb2 hL0
  generalize splice L0 0 rest = L1 at *
  have hg1 : Hid (w.heap.size < w.heap.size + 1) := Nat.lt_succ_self _
  generalize hgg : w.heap.size + 1 = g at *
  have hgg := Lib.hid hgg
  have x0 : ∃ z : UInt8, w2.cell? ⟨g, rest.length, none⟩ = some (.int .u8 (z.toNat : Int)) := by
    refine ⟨L1.getD rest.length 0, ?_⟩
    rw [hx2.cell, vb_get, List.getElem?_eq_getElem (by omega), Option.map_some, List.getD_eq_getElem?_getD, List.getElem?_eq_getElem (by omega)]
    rfl
  obtain ⟨z, x0⟩ := x0
  have f0 := hx2.frozen rest.length
  have i0 : (0 : Int) ≤ (rest.length : Int) := by omega
  have i1 : (rest.length : Int) < 128 := by omega
  have hx3 := hx2.set rest.length (.int .u8 128)
  have hs3 : (vb L1).set rest.length (.int .u8 128) = vb (L1.set rest.length 128) := vb_set L1 rest.length 128
  rw [hs3] at hx3
  have hbw3 : Box (w2.setCell ⟨g, rest.length, none⟩ (.int .u8 128)) w.heap.size 163 (stCells s) := (Below.heap_setCell w2 _ _ _ (by have := hg1.out; dsimp only; omega)).trans hbw2
  have hall3 := hall.setCell (p := ⟨g, rest.length, none⟩) (by have := hg1.out; dsimp only; omega) (.int .u8 128)
  have hx3 := Lib.hid hx3
  have hbw3 := Lib.hid hbw3
  have hall3 := Lib.hid hall3
  have hL2 : Hid ((L1.set rest.length 128).length = 128) := by show _ = _; rw [List.length_set, hL1]
  clear hall hbw2 hx2 hs3
  by_cases h9 : rest.length + 9 ≤ 64
  · have m0 : IntKind.u64.wrap (count : Int) = (count : Int) := by rw [IntKind.wrap_u64]; omega
    have m1 : IntKind.u64.wrap ((count : Int) * 8) = ((count * 8 : Nat) : Int) := by rw [IntKind.wrap_u64]; omega
    have i9 : ¬ ((64 : Int) < (rest.length : Int) + 9) := by omega
    go_wp2_with fail
    generalize w2.setCell ⟨g, rest.length, none⟩ (.int .u8 128) = w3 at *
    have e56 : IntKind.i64.wrap 56 = 56 := by decide
    have hcf := cut_from g 56 (by omega) (by omega) 56 rfl
    have hcu := cut_upto g 64 (by omega) 64 rfl
    clear x0 f0
    go_region_held3 (fun W' : World => True) (trivial) (first
      | (go_at_call 48; refine (put8_nat (count * 8) (by omega) _).mono ?_; rintro e w4 ⟨v4, rfl, h4, hb4⟩; obtain ⟨A4, c4, rfl, -, -⟩ := h4.sees.mk_; rw [putB_len] at h4 ⊢)
      | (refine step_copy_splice rfl (.tmp 23) (.tmp 27) 23 23 rfl 5 Tryz.underlying23 hsz (some ⟨g, 56, none⟩) A4 72 72 8 c4 (by rfl) (by rfl) g 56 (vb (L1.set rest.length 128)) 171 (Box.below (w := w3.drew) hx3.out hb4) (vb (putB 8 (count * 8))) (by rw [vb_len, putB_len]; rfl) (fun h0 => ⟨rfl, sees_cells h4.sees h0⟩) (by rw [vb_len, vb_len, putB_len, hL2.out]; omega) (vb_one _) (w.heap.size + 1) _ (Below.refl _ _) (Nat.le_of_eq hgg.out) ?_; intro w5 hx5 hb5))
    generalize goInt ((vb (putB 8 (count * 8))).length : Int) = gi
    replace hx5 : Box w5 g 171 (vb (endOf rest count)) := by
      have := hx5.out
      rw [vb_splice] at this
      rw [hE.out, szOf, if_pos h9]; exact this
    have hL5 : (endOf rest count).length = 128 := by
      rw [hE.out, length_splice _ _ _ (by rw [hL2.out, putB_len, szOf, if_pos h9]; omega), hL2.out]
    have htk := end_take rest count hr
    rw [szOf, if_pos h9] at htk
    have hbw4 : Box w4 w.heap.size 163 (stCells s) := Box.below (w := w3.drew) hbw3.out hb4
    have hall4 := hall3.out.drew.trans (hb4.mono (Nat.le_of_lt (Nat.lt_of_lt_of_le (Box.lt hbw3.out) (Nat.le_refl _))))
    have hbw5 : Box w5 w.heap.size 163 (stCells s) := (hb5.block _ (by omega)).trans hbw4
    have hall5 := hall4.trans (hb5.mono (by omega))
    have hgne := hgg.out
    have hsee : Hid (∀ w', w5.grownBy w' (some w.heap.size) → SeesB w' w5.heap.size (.slice (some ⟨g, 0, none⟩) 64 128) (rest ++ padding rest.length count)) := fun w' hg => by
      rw [← htk]
      exact box_sees ((hg.block g (Box.lt hx5) (by simp; omega)).trans hx5) 64 128 (by omega) (by omega) (by unfold maxLen; omega) _ (Box.lt hx5)
    have hrow5 := Lib.hid (stCells_row hbw5)
    replace hall5 := Lib.hid hall5
    clear hall4 hbw4 hbw5 htk hL5 hx5 hb5 hb4 h4 hbw3 hall3 hx3 hcf hL2 hgne
    go_wp2_with fail
    refine (whole_any w.heap.size 163 s w5.heap.size _ _ w5 hrow5.out (Nat.le_refl _) hsee.out).mono ?_
    rintro e w6 ⟨v6, rfl, -, hs6, hg6⟩
    have hall6 := hall5.out.grown hg6 (hall5.out.size) (fun k hk => by injection hk with hk; omega)
    clear hsee hrow5 hall5 hg6
    have hfin : Hid (out (absorb s (rest ++ padding rest.length count) ((rest ++ padding rest.length count).length / 64)) = finish s rest count) := rfl
    generalize absorb s (rest ++ padding rest.length count) ((rest ++ padding rest.length count).length / 64) = q at hs6 hfin
    have g0 : w6.cell? ⟨w.heap.size, 0, none⟩ = some (.int .u32 (q.a.toNat : Int)) := hs6.cell (i := 0) (by omega)
    have g1 : w6.cell? ⟨w.heap.size, 1, none⟩ = some (.int .u32 (q.b.toNat : Int)) := hs6.cell (i := 1) (by omega)
    have g2 : w6.cell? ⟨w.heap.size, 2, none⟩ = some (.int .u32 (q.c.toNat : Int)) := hs6.cell (i := 2) (by omega)
    have g3 : w6.cell? ⟨w.heap.size, 3, none⟩ = some (.int .u32 (q.d.toNat : Int)) := hs6.cell (i := 3) (by omega)
    have g4 : w6.cell? ⟨w.heap.size, 4, none⟩ = some (.int .u32 (q.e.toNat : Int)) := hs6.cell (i := 4) (by omega)
    have g5 : w6.cell? ⟨w.heap.size, 5, none⟩ = some (.int .u32 (q.f.toNat : Int)) := hs6.cell (i := 5) (by omega)
    have g6 : w6.cell? ⟨w.heap.size, 6, none⟩ = some (.int .u32 (q.g.toNat : Int)) := hs6.cell (i := 6) (by omega)
    have g7 : w6.cell? ⟨w.heap.size, 7, none⟩ = some (.int .u32 (q.h.toNat : Int)) := hs6.cell (i := 7) (by omega)
    have hlt6 := hs6.lt
    replace hs6 := Lib.hid hs6
    replace hall6 := Lib.hid hall6
    have hmk := make_32
    dsimp only
    go_wp2_with fail
    refine wp_fresh (fun W => OwnB W w.heap.size (.slice (some ⟨w6.heap.size, 0, none⟩) 0 32) [] ∧ Below w.heap.size w W) ⟨World.ownsRow_made w6 _ 32 hall6.out.size (by unfold maxLen; omega) (by simp [vb]), hall6.out.alloc hall6.out.size _⟩ ?_
    rintro W7 ⟨ho7, hb7⟩
    replace ho7 := Lib.hid ho7
    replace hb7 := Lib.hid hb7
    clear g0 g1 g2 g3 g4 g5 g6 g7 hs6 hall6 hmk hcu
    go_loopw [10, 12, 34] (fun r _ t wr => ∃ k : Nat, k ≤ 8 ∧ t = .int .i64 k ∧ Hid (OwnB wr w.heap.size r (outOf ((stList q).take k))) ∧ Hid (Below w.heap.size w wr)) (fun _ _ t _ => 8 - (intOf t).toNat)
    case atStart => exact ⟨0, by omega, rfl, ho7, hb7⟩
    case round =>
      clear ho7 hb7
      obtain ⟨k, hk, rfl, ho, hb⟩ := hrel
      by_cases hlt : k < 8
      · have hix := words_index q k hlt
        have hst := Lib.hid (out_step q k hlt)
        have h4 := Lib.hid (put4 (stAt q k))
        have hol := Lib.hid (show (outOf ((stList q).take k)).length ≤ 32 by
          rcases (by omega : k = 0 ∨ k = 1 ∨ k = 2 ∨ k = 3 ∨ k = 4 ∨ k = 5 ∨ k = 6 ∨ k = 7) with rfl | rfl | rfl | rfl | rfl | rfl | rfl | rfl
          all_goals simp [outOf, stList, putB_len])
        generalize stAt q k = x at hix hst h4
        generalize outOf ((stList q).take k) = acc at ho hst hol
        have i0 : (0 : Int) ≤ (k : Int) := by omega
        have i1 : (k : Int) < 8 := by omega
        have hc4 := balloc wr (.cells #[.int .u8 ((x.toNat : Int) / 16777216), .int .u8 ((x.toNat : Int) / 65536 % 256), .int .u8 ((x.toNat : Int) / 256 % 256), .int .u8 ((x.toNat : Int) % 256)] 5)
        have hown := own_made wr (putB 4 x.toNat) (by rw [putB_len]; unfold maxLen; omega) wr.heap.size (Nat.le_refl _)
        rw [h4.out, putB_len] at hown
        have hsee := Lib.hid hown.sees
        have hb9 := Lib.hid (hb.out.trans (hc4.mono hb.out.size))
        have ho9 := Lib.hid (ho.out.below hc4)
        have hl9 := Lib.hid (show acc.length + (putB 4 x.toNat).length ≤ 140737488355328 by rw [putB_len]; have := hol.out; omega)
        clear hown hc4 ho hb h4 hol
        go_wp2_with (at_builtin; refine wpList_app (by rfl) _ _ rfl w.heap.size _ acc rfl ho9.out _ _ (putB 4 x.toNat) rfl hsee.out hl9.out hb9.out.size ?_)
        intro v' w' hW2 hb2
        have hW2 := Lib.hid hW2
        have hb2 := Lib.hid hb2
        go_wp2_with fail
        go_roundw
        case rel => exact ⟨k + 1, by omega, by go_num, by rw [hst.out]; exact hW2.out, hb9.out.trans hb2.out⟩
        case measure => simp [intOf]; omega
      · have he : outOf ((stList q).take k) = finish s rest count := by
          rw [List.take_of_length_le (by simp [stList]; omega)]; exact hfin.out
        rw [he] at ho
        go_wp2_with fail
        go_ret
        exact ⟨_, rfl, ho.out, hb.out⟩
  · have m0 : IntKind.u64.wrap (count : Int) = (count : Int) := by rw [IntKind.wrap_u64]; omega
    have m1 : IntKind.u64.wrap ((count : Int) * 8) = ((count * 8 : Nat) : Int) := by rw [IntKind.wrap_u64]; omega
    have i9 : (64 : Int) < (rest.length : Int) + 9 := by omega
    go_wp2_with fail
    generalize w2.setCell ⟨g, rest.length, none⟩ (.int .u8 128) = w3 at *
    have e56 : IntKind.i64.wrap 120 = 120 := by decide
    have hcf := cut_from g 120 (by omega) (by omega) 120 rfl
    have hcu := cut_upto g 128 (by omega) 128 rfl
    clear x0 f0
    go_region_held3 (fun W' : World => True) (trivial) (first
      | (go_at_call 48; refine (put8_nat (count * 8) (by omega) _).mono ?_; rintro e w4 ⟨v4, rfl, h4, hb4⟩; obtain ⟨A4, c4, rfl, -, -⟩ := h4.sees.mk_; rw [putB_len] at h4 ⊢)
      | (refine step_copy_splice rfl (.tmp 23) (.tmp 27) 23 23 rfl 5 Tryz.underlying23 hsz (some ⟨g, 120, none⟩) A4 8 8 8 c4 (by rfl) (by rfl) g 120 (vb (L1.set rest.length 128)) 171 (Box.below (w := w3.drew) hx3.out hb4) (vb (putB 8 (count * 8))) (by rw [vb_len, putB_len]; rfl) (fun h0 => ⟨rfl, sees_cells h4.sees h0⟩) (by rw [vb_len, vb_len, putB_len, hL2.out]; omega) (vb_one _) (w.heap.size + 1) _ (Below.refl _ _) (Nat.le_of_eq hgg.out) ?_; intro w5 hx5 hb5))
    generalize goInt ((vb (putB 8 (count * 8))).length : Int) = gi
    replace hx5 : Box w5 g 171 (vb (endOf rest count)) := by
      have := hx5.out
      rw [vb_splice] at this
      rw [hE.out, szOf, if_neg h9]; exact this
    have hL5 : (endOf rest count).length = 128 := by
      rw [hE.out, length_splice _ _ _ (by rw [hL2.out, putB_len, szOf, if_neg h9]; omega), hL2.out]
    have htk := end_take rest count hr
    rw [szOf, if_neg h9] at htk
    have hbw4 : Box w4 w.heap.size 163 (stCells s) := Box.below (w := w3.drew) hbw3.out hb4
    have hall4 := hall3.out.drew.trans (hb4.mono (Nat.le_of_lt (Nat.lt_of_lt_of_le (Box.lt hbw3.out) (Nat.le_refl _))))
    have hbw5 : Box w5 w.heap.size 163 (stCells s) := (hb5.block _ (by omega)).trans hbw4
    have hall5 := hall4.trans (hb5.mono (by omega))
    have hgne := hgg.out
    have hsee : Hid (∀ w', w5.grownBy w' (some w.heap.size) → SeesB w' w5.heap.size (.slice (some ⟨g, 0, none⟩) 128 128) (rest ++ padding rest.length count)) := fun w' hg => by
      rw [← htk]
      exact box_sees ((hg.block g (Box.lt hx5) (by simp; omega)).trans hx5) 128 128 (by omega) (by omega) (by unfold maxLen; omega) _ (Box.lt hx5)
    have hrow5 := Lib.hid (stCells_row hbw5)
    replace hall5 := Lib.hid hall5
    clear hall4 hbw4 hbw5 htk hL5 hx5 hb5 hb4 h4 hbw3 hall3 hx3 hcf hL2 hgne
    go_wp2_with fail
    refine (whole_any w.heap.size 163 s w5.heap.size _ _ w5 hrow5.out (Nat.le_refl _) hsee.out).mono ?_
    rintro e w6 ⟨v6, rfl, -, hs6, hg6⟩
    have hall6 := hall5.out.grown hg6 (hall5.out.size) (fun k hk => by injection hk with hk; omega)
    clear hsee hrow5 hall5 hg6
    have hfin : Hid (out (absorb s (rest ++ padding rest.length count) ((rest ++ padding rest.length count).length / 64)) = finish s rest count) := rfl
    generalize absorb s (rest ++ padding rest.length count) ((rest ++ padding rest.length count).length / 64) = q at hs6 hfin
    have g0 : w6.cell? ⟨w.heap.size, 0, none⟩ = some (.int .u32 (q.a.toNat : Int)) := hs6.cell (i := 0) (by omega)
    have g1 : w6.cell? ⟨w.heap.size, 1, none⟩ = some (.int .u32 (q.b.toNat : Int)) := hs6.cell (i := 1) (by omega)
    have g2 : w6.cell? ⟨w.heap.size, 2, none⟩ = some (.int .u32 (q.c.toNat : Int)) := hs6.cell (i := 2) (by omega)
    have g3 : w6.cell? ⟨w.heap.size, 3, none⟩ = some (.int .u32 (q.d.toNat : Int)) := hs6.cell (i := 3) (by omega)
    have g4 : w6.cell? ⟨w.heap.size, 4, none⟩ = some (.int .u32 (q.e.toNat : Int)) := hs6.cell (i := 4) (by omega)
    have g5 : w6.cell? ⟨w.heap.size, 5, none⟩ = some (.int .u32 (q.f.toNat : Int)) := hs6.cell (i := 5) (by omega)
    have g6 : w6.cell? ⟨w.heap.size, 6, none⟩ = some (.int .u32 (q.g.toNat : Int)) := hs6.cell (i := 6) (by omega)
    have g7 : w6.cell? ⟨w.heap.size, 7, none⟩ = some (.int .u32 (q.h.toNat : Int)) := hs6.cell (i := 7) (by omega)
    have hlt6 := hs6.lt
    replace hs6 := Lib.hid hs6
    replace hall6 := Lib.hid hall6
    have hmk := make_32
    dsimp only
    go_wp2_with fail
    refine wp_fresh (fun W => OwnB W w.heap.size (.slice (some ⟨w6.heap.size, 0, none⟩) 0 32) [] ∧ Below w.heap.size w W) ⟨World.ownsRow_made w6 _ 32 hall6.out.size (by unfold maxLen; omega) (by simp [vb]), hall6.out.alloc hall6.out.size _⟩ ?_
    rintro W7 ⟨ho7, hb7⟩
    replace ho7 := Lib.hid ho7
    replace hb7 := Lib.hid hb7
    clear g0 g1 g2 g3 g4 g5 g6 g7 hs6 hall6 hmk hcu
    go_loopw [10, 12, 34] (fun r _ t wr => ∃ k : Nat, k ≤ 8 ∧ t = .int .i64 k ∧ Hid (OwnB wr w.heap.size r (outOf ((stList q).take k))) ∧ Hid (Below w.heap.size w wr)) (fun _ _ t _ => 8 - (intOf t).toNat)
    case atStart => exact ⟨0, by omega, rfl, ho7, hb7⟩
    case round =>
      clear ho7 hb7
      obtain ⟨k, hk, rfl, ho, hb⟩ := hrel
      by_cases hlt : k < 8
      · have hix := words_index q k hlt
        have hst := Lib.hid (out_step q k hlt)
        have h4 := Lib.hid (put4 (stAt q k))
        have hol := Lib.hid (show (outOf ((stList q).take k)).length ≤ 32 by
          rcases (by omega : k = 0 ∨ k = 1 ∨ k = 2 ∨ k = 3 ∨ k = 4 ∨ k = 5 ∨ k = 6 ∨ k = 7) with rfl | rfl | rfl | rfl | rfl | rfl | rfl | rfl
          all_goals simp [outOf, stList, putB_len])
        generalize stAt q k = x at hix hst h4
        generalize outOf ((stList q).take k) = acc at ho hst hol
        have i0 : (0 : Int) ≤ (k : Int) := by omega
        have i1 : (k : Int) < 8 := by omega
        have hc4 := balloc wr (.cells #[.int .u8 ((x.toNat : Int) / 16777216), .int .u8 ((x.toNat : Int) / 65536 % 256), .int .u8 ((x.toNat : Int) / 256 % 256), .int .u8 ((x.toNat : Int) % 256)] 5)
        have hown := own_made wr (putB 4 x.toNat) (by rw [putB_len]; unfold maxLen; omega) wr.heap.size (Nat.le_refl _)
        rw [h4.out, putB_len] at hown
        have hsee := Lib.hid hown.sees
        have hb9 := Lib.hid (hb.out.trans (hc4.mono hb.out.size))
        have ho9 := Lib.hid (ho.out.below hc4)
        have hl9 := Lib.hid (show acc.length + (putB 4 x.toNat).length ≤ 140737488355328 by rw [putB_len]; have := hol.out; omega)
        clear hown hc4 ho hb h4 hol
        go_wp2_with (at_builtin; refine wpList_app (by rfl) _ _ rfl w.heap.size _ acc rfl ho9.out _ _ (putB 4 x.toNat) rfl hsee.out hl9.out hb9.out.size ?_)
        intro v' w' hW2 hb2
        have hW2 := Lib.hid hW2
        have hb2 := Lib.hid hb2
        go_wp2_with fail
        go_roundw
        case rel => exact ⟨k + 1, by omega, by go_num, by rw [hst.out]; exact hW2.out, hb9.out.trans hb2.out⟩
        case measure => simp [intOf]; omega
      · have he : outOf ((stList q).take k) = finish s rest count := by
          rw [List.take_of_length_le (by simp [stList]; omega)]; exact hfin.out
        rw [he] at ho
        go_wp2_with fail
        go_ret
        exact ⟨_, rfl, ho.out, hb.out⟩
end
section
open Go.RowKit
set_option linter.unusedVariables false
attribute [local go_sem ↓] Go.wp_at_zero Go.wp_at_succ
set_option maxRecDepth 100000 in
theorem sum_any (B : Nat) (u : Value) (bs : Bs) (w : World) (hu : SeesB w B u bs) (hB : B ≤ w.heap.size) (hlen : bs.length ≤ 1099511627776) :
    Calls Tryz.prog 125 #[u] w (Gives (sha bs) w) := by
  obtain ⟨A, c, rfl, hc1, hc2⟩ := hu.mk_
  have hu := Lib.hid hu
  go_enter Tryz.func125, Tryz.ntmps125
  go_wp2_with fail
  refine (first_any _).mono ?_
  rintro e w1 ⟨rfl, hb1⟩
  have hu1 := hu.out.below (hb1.mono hB)
  obtain ⟨q, hq⟩ : ∃ q : St, q = st0 := ⟨_, rfl⟩
  rw [← hq]
  replace hq := Lib.hid hq
  unfold wdV
  dsimp only
  go_wp2_with fail
  have hc2' := balloc w1 (.cells (stCells q).toArray 163)
  have hbx := Box.new w1 163 (stCells q)
  have hall := bgo hb1 hc2'
  have hsz1 := hb1.size
  have hu2 := hu1.below (hc2'.mono (Nat.le_trans hB hsz1))
  change Calls _ _ _ (w1.alloc (.cells (stCells q).toArray 163)) _
  generalize w1.alloc (.cells (stCells q).toArray 163) = w2 at hc2' hbx hall hu2 ⊢
  have hview : ∀ w', w2.grownBy w' (some w1.heap.size) → SeesB w' B (.slice A bs.length c) bs := fun w' hg => Sees.grown hu2 hg (by have := hall.size; omega) (fun g hg => by injection hg with hg; omega)
  refine (whole_any w1.heap.size 163 q B _ bs w2 (stCells_row hbx) (by have := hall.size; omega) hview).mono ?_
  rintro e w3 ⟨v3, rfl, hs3, hr3, hg3⟩
  have hall3 := hall.grown hg3 hall.size (fun k hk => by injection hk with hk; omega)
  have hq2 : Hid (finish (absorb q bs (bs.length / 64)) (bs.drop (64 * (bs.length / 64))) bs.length = sha bs) := by rw [hq.out]; exact rfl
  have hl3 : (bs.drop (64 * (bs.length / 64))).length < 64 := by rw [List.length_drop]; omega
  generalize absorb q bs (bs.length / 64) = q3 at hr3 hq2
  generalize bs.drop (64 * (bs.length / 64)) = r3 at hs3 hq2 hl3
  have g0 : w3.cell? ⟨w1.heap.size, 0, none⟩ = some (.int .u32 (q3.a.toNat : Int)) := hr3.cell (i := 0) (by omega)
  have g1 : w3.cell? ⟨w1.heap.size, 1, none⟩ = some (.int .u32 (q3.b.toNat : Int)) := hr3.cell (i := 1) (by omega)
  have g2 : w3.cell? ⟨w1.heap.size, 2, none⟩ = some (.int .u32 (q3.c.toNat : Int)) := hr3.cell (i := 2) (by omega)
  have g3 : w3.cell? ⟨w1.heap.size, 3, none⟩ = some (.int .u32 (q3.d.toNat : Int)) := hr3.cell (i := 3) (by omega)
  have g4 : w3.cell? ⟨w1.heap.size, 4, none⟩ = some (.int .u32 (q3.e.toNat : Int)) := hr3.cell (i := 4) (by omega)
  have g5 : w3.cell? ⟨w1.heap.size, 5, none⟩ = some (.int .u32 (q3.f.toNat : Int)) := hr3.cell (i := 5) (by omega)
  have g6 : w3.cell? ⟨w1.heap.size, 6, none⟩ = some (.int .u32 (q3.g.toNat : Int)) := hr3.cell (i := 6) (by omega)
  have g7 : w3.cell? ⟨w1.heap.size, 7, none⟩ = some (.int .u32 (q3.h.toNat : Int)) := hr3.cell (i := 7) (by omega)
  have hf := finish_any q3 B v3 r3 bs.length w3 hs3 (by have := hall3.size; omega) hl3 hlen
  unfold wdV at hf
  replace hf := Lib.hid hf
  dsimp only
  go_wp2_with fail
  refine hf.out.mono ?_
  rintro e w4 ⟨v4, rfl, h4, hb4⟩
  dsimp only
  go_wp2_with fail
  go_ret
  exact ⟨v4, rfl, by rw [← hq2.out]; exact h4.mono hall3.size, bgo hall3 hb4⟩
theorem SeesB.take {w : World} {B n c m c' : Nat} {A : Option Addr} {l : Bs} (h : SeesB w B (.slice A n c) l) (hm : m ≤ l.length) (hc : m ≤ c') (hx : c' ≤ maxLen) : SeesB w B (.slice A m c') (l.take m) := by
  have hl : (l.take m).length = m := by rw [List.length_take]; omega
  unfold SeesB
  rw [hl]
  refine ⟨by rw [vb_len, hl, Nat.mul_one], A, c', rfl, hc, hx, fun h0 => ?_⟩
  obtain ⟨b, o, e, hb, hcell⟩ := h.at_ (by omega)
  refine ⟨b, o, e, hb, fun j x hj => ?_⟩
  rw [vb_get, List.getElem?_take] at hj
  split at hj
  · obtain ⟨y, hy, rfl⟩ := Option.map_eq_some_iff.1 hj
    rw [hcell j (List.getElem?_eq_some_iff.1 hy).1, List.getD_eq_getElem?_getD, hy]
    rfl
  · cases hj
/-- The value's block, where there is one, is at least base. -/
def From (base : Nat) (v : Value) : Prop := ∀ (a : Addr) (n c : Nat), v = .slice (some a) n c → base ≤ a.block
theorem From.mono {a b : Nat} {v : Value} (h : From b v) (hab : a ≤ b) : From a v := fun x n c e => Nat.le_trans hab (h x n c e)
theorem OwnB.from {w : World} {base : Nat} {v : Value} {l : Bs} (h : OwnB w base v l) : From base v := by
  intro a n c e
  rcases h.2 with ⟨rfl, _⟩ | ⟨g, cap, cur, rfl, hb, _⟩
  · cases e
  · injection e with e1; injection e1 with e1; subst e1; exact hb
theorem From.cut {base n c m d : Nat} {A : Option Addr} (h : From base (.slice A n c)) : From base (.slice A m d) := by
  intro a n' c' e
  injection e with e1
  subst e1
  exact h a n c rfl
/-- The call returns a value that shows these bytes, and changes nothing that was there. -/
def Shows (l : Bs) (w : World) (e : Ending) (w' : World) : Prop := ∃ v, e = .returned v ∧ SeesB w' w'.heap.size v l ∧ Below w.heap.size w w' ∧ From w.heap.size v
theorem Gives.shows {l : Bs} {w w' : World} {e : Ending} (h : Gives l w e w') : Shows l w e w' := by
  obtain ⟨v, h1, h2, h3⟩ := h
  exact ⟨v, h1, h2.sees, h3, h2.from⟩
set_option maxRecDepth 100000 in
theorem short_any (B : Nat) (u : Value) (bs : Bs) (w : World) (hu : SeesB w B u bs) (hB : B ≤ w.heap.size) (hlen : bs.length ≤ 1099511627776) :
    Calls Tryz.prog 111 #[u] w (Shows (short bs) w) := by
  have hs := sum_any B u bs w hu hB hlen
  have hl := sha_len bs
  go_enter Tryz.func111, Tryz.ntmps111
  go_wp2_with (go_at_call 125; refine hs.mono ?_; rintro e w' ⟨v, rfl, h1, hb⟩; obtain ⟨A, c, rfl, hc1, hc2⟩ := h1.sees.mk_)
  go_ret
  have h2 := h1.sees.take (m := 16) (c' := 16) (by omega) (by omega) (by unfold maxLen; omega)
  exact ⟨.slice A 16 16, rfl, h2, hb, h1.from.cut⟩
set_option maxRecDepth 100000 in
theorem clone_any (B : Nat) (u : Value) (bs : Bs) (w : World) (hu : SeesB w B u bs) (hB : B ≤ w.heap.size) (hlen : bs.length ≤ 1099511627776) :
    Calls Tryz.prog 80 #[u] w (Gives bs w) := by
  obtain ⟨A, c, rfl, hc1, hc2⟩ := hu.mk_
  cases A with
  | none =>
    have h0 : bs = [] := by
      rcases Nat.eq_zero_or_pos bs.length with h0 | h0
      · exact List.eq_nil_of_length_eq_zero h0
      · obtain ⟨b, o, e, _⟩ := hu.at_ h0
        cases e
    subst h0
    have hnil : ∀ W, (binOp .eql 23 (.slice none 0 c) (.slice none 0 0)).run Tryz.prog W = .ok (.bool true) W := fun W => Lib.run_eql_slice_nil_nil W _ _ Tryz.underlying23
    go_enter Tryz.func80, Tryz.ntmps80
    go_wp2_with fail
    go_ret
    exact ⟨_, rfl, World.ownsRow_nil _ _ _ _, Below.refl _ _⟩
  | some a =>
    have hnil : ∀ W, (binOp .eql 23 (.slice (some a) bs.length c) (.slice none 0 0)).run Tryz.prog W = .ok (.bool false) W := fun W => Lib.run_eql_slice_some_nil W _ _ _ Tryz.underlying23
    have hl := balloc w (.cells #[] 5)
    have ho := own_made w [] (Nat.zero_le _) w.heap.size (Nat.le_refl _)
    have hs := hu.below (hl.mono hB)
    clear hu
    go_enter Tryz.func80, Tryz.ntmps80
    go_wp2_with (at_builtin; refine wpList_app (by rfl) _ _ rfl w.heap.size _ [] rfl ho B _ bs rfl hs (by simp; omega) hl.size ?_)
    intro v' w' h2 hb2
    go_wp2_with fail
    go_ret
    exact ⟨v', rfl, h2, hl.trans hb2⟩
def chainN (n : Int) : Nat := (min (max n 0) 65536).toNat
set_option maxRecDepth 100000 in
theorem chain_any (B : Nat) (u : Value) (bs : Bs) (n : Int) (w : World) (hu : SeesB w B u bs) (hB : B ≤ w.heap.size) (hlen : bs.length ≤ 1099511627776) :
    Calls Tryz.prog 109 #[u, .int .i64 n] w (Shows (chainH (chainN n) bs) w) := by
  have hcl := clone_any B u bs w hu hB hlen
  go_enter Tryz.func109, Tryz.ntmps109
  go_wp2_with (go_at_call 80; refine hcl.mono ?_; rintro e w1 ⟨v, rfl, h1, hb1⟩)
  have hlim : min (max n 0) 65536 = (chainN n : Int) := by unfold chainN; omega
  have hcN : chainN n ≤ 65536 := by unfold chainN; omega
  rw [hlim]
  replace hlim := Lib.hid hlim
  generalize chainN n = N at *
  have hf1 := Lib.hid h1.from
  have h1 := Lib.hid h1.sees
  have hb1 := Lib.hid hb1
  go_loopw [5, 11] (fun v t wr => ∃ k : Nat, k ≤ N ∧ t = .int .i64 k ∧ Hid (SeesB wr wr.heap.size v (chainH k bs)) ∧ Hid (Below w.heap.size w wr) ∧ Hid (From w.heap.size v)) (fun _ t _ => N - (intOf t).toNat)
  case atStart => exact ⟨0, by omega, rfl, h1, hb1, hf1⟩
  case round =>
    clear h1 hb1 hcl hf1
    obtain ⟨k, hk, rfl, h1, hb1, hf1⟩ := hrel
    by_cases hlt : k < N
    · have i1 : (k : Int) < (N : Int) := by omega
      have hl : (chainH k bs).length ≤ 1099511627776 := by
        cases k with
        | zero => exact hlen
        | succ k => rw [chainH, short_len]; omega
      have hs := short_any _ _ _ _ h1.out (Nat.le_refl _) hl
      replace hs := Lib.hid hs
      clear hl
      go_wp2_with (go_at_call 111; refine hs.out.mono ?_; rintro e w2 ⟨v2, rfl, h2, hb2, hf2⟩)
      replace hf2 := Lib.hid (hf2.mono hb1.out.size)
      replace h2 := Lib.hid h2
      replace hb2 := Lib.hid hb2
      go_roundw
      case rel => exact ⟨k + 1, by omega, by go_num, h2, bgo hb1.out hb2.out, hf2⟩
      case measure => simp [intOf]; omega
    · obtain rfl : k = N := by omega
      go_wp2_with fail
      go_ret
      exact ⟨_, rfl, h1.out, hb1.out, hf1.out⟩
end
section
open Go.RowKit
set_option linter.unusedVariables false
attribute [local go_sem ↓] Go.wp_at_zero Go.wp_at_succ
theorem SeesW.at_ {w : World} {B : Nat} {v : Value} {l : List Wd} (h : SeesW w B v l) (h0 : 0 < l.length) : ∃ g o c, v = .slice (some ⟨g, o, none⟩) l.length c ∧ g < B ∧ ∀ j, j < l.length → w.cell? ⟨g, o + j, none⟩ = some (wdV (l.getD j 0)) := by
  obtain ⟨_, A, c, rfl, h1, h2, h3⟩ := h
  obtain ⟨b, o, rfl, hb, hc⟩ := h3 h0
  refine ⟨b, o, c, rfl, hb, fun j hj => hc j _ ?_⟩
  rw [List.getElem?_map, List.getElem?_eq_getElem hj, Option.map_some, List.getD_eq_getElem?_getD, List.getElem?_eq_getElem hj]
  rfl
theorem stAt_get (s : St) (j : Nat) (hj : j < 8) : (stList s).getD j 0 = stAt s j := by
  rcases (by omega : j = 0 ∨ j = 1 ∨ j = 2 ∨ j = 3 ∨ j = 4 ∨ j = 5 ∨ j = 6 ∨ j = 7) with rfl | rfl | rfl | rfl | rfl | rfl | rfl | rfl
  all_goals rfl
theorem kTab_len : kTab.length = 64 := rfl
def WPost (s : St) (w : World) (e : Ending) (w' : World) : Prop := ∃ v, e = .returned v ∧ SeesW w' w'.heap.size v (stList s) ∧ Below w.heap.size w w'
theorem rblock_sees (s : St) (bs : Bs) (uh uk u : Value) (B : Nat) (w : World) (hs : SeesW w B uh (stList s)) (hk : SeesW w B uk kTab) (hb : SeesB w B u bs) (hl : bs.length = 64) (hB : B ≤ w.heap.size) :
    Calls Tryz.prog 36 #[uh, uk, u] w (WPost (compress s bs) w) := by
  obtain ⟨gh, oh, ch, rfl, lh, c1⟩ := hs.at_ (by simp [stList])
  obtain ⟨gk, ok, ck, rfl, lk, c2⟩ := hk.at_ (by rw [kTab_len]; omega)
  obtain ⟨A, c, rfl, _, _⟩ := hb.mk_
  obtain ⟨gb, ob, rfl, lb, c3⟩ := hb.at_ (by omega)
  rw [hl]
  refine (rblock_any gh oh ch gk ok ck gb ob c s bs w (by omega) (by omega) (by omega) (fun j hj => by rw [← stAt_get s j hj]; exact c1 j hj) (fun j hj => c2 j (by rw [kTab_len]; exact hj)) (fun j hj => c3 j (by omega))).mono ?_
  rintro e w' ⟨v, rfl, h1, h2⟩
  exact ⟨v, rfl, Sees.of_own h1, h2⟩
theorem rput8c (count : Nat) (h : count ≤ 1099511627776) (w : World) : Calls Tryz.prog 15 #[.int .u64 ((count : Int) * 8), .int .i64 8] w (Gives (putB 8 (count * 8)) w) := by
  have h := rput_any (count * 8) 8 (by omega) (by omega) w
  rw [Int.natCast_mul] at h
  exact h
def padK (n : Nat) : Nat := if n + 9 ≤ 64 then 55 - n else 119 - n
theorem padK_end (n k : Nat) (h : n < 64) (hk : k ≤ padK n) (he : (n + 1 + k) % 64 = 56) : k = padK n := by
  unfold padK at *
  by_cases h9 : n + 9 ≤ 64
  · simp only [if_pos h9] at *; omega
  · simp only [if_neg h9] at *; omega
theorem padK_more (n k : Nat) (h : n < 64) (hk : k ≤ padK n) (he : (n + 1 + k) % 64 ≠ 56) : k < padK n := by
  unfold padK at *
  by_cases h9 : n + 9 ≤ 64
  · simp only [if_pos h9] at *; omega
  · simp only [if_neg h9] at *; omega
theorem one_byte (w : World) (x : UInt8) (n : Int) (hx : (x.toNat : Int) = n) : OwnB (w.alloc (.cells #[.int .u8 n] 5)) w.heap.size (.slice (some ⟨w.heap.size, 0, none⟩) 1 1) [x] := by
  subst hx
  exact own_made w [x] (by simp [maxLen]) _ (Nat.le_refl _)
set_option maxRecDepth 100000 in
theorem rfinish_any (s : St) (B : Nat) (uh u : Value) (rest : Bs) (count : Nat) (w : World) (hh : SeesW w B uh (stList s)) (hu : SeesB w B u rest) (hB : B ≤ w.heap.size) (hr : rest.length < 64) (hcount : count ≤ 1099511627776) :
    Calls Tryz.prog 37 #[uh, u, .int .i64 (count : Int)] w (Gives (finish s rest count) w) := by
  obtain ⟨A, c, rfl, hc1, hc2⟩ := hu.mk_
  obtain ⟨gh, oh, ch, rfl, -, -⟩ := id (hh.at_ (by simp [stList]))
  replace hu := Lib.hid hu
  replace hh := Lib.hid hh
  have m0 : IntKind.u64.wrap (count : Int) = (count : Int) := by rw [IntKind.wrap_u64]; omega
  have m1 : IntKind.u64.wrap ((count : Int) * 8) = ((count * 8 : Nat) : Int) := by rw [IntKind.wrap_u64]; omega
  go_enter Tryz.func37, Tryz.ntmps37
  go_wp2_with fail
  refine (rconst_any _).mono ?_
  rintro e w1 ⟨vk, rfl, hk1, hb1⟩
  replace hu := Lib.hid (hu.out.below (hb1.mono hB))
  replace hk1 := Lib.hid hk1
  dsimp only
  go_wp2_with fail
  have hall := seesL_lit w1 23 (show SeesAll w1 w1.heap.size [.slice A rest.length c] [rest] from ⟨hu.out.more (Nat.le_trans hB hb1.size), trivial⟩) (by simp [maxLen])
  refine (rjoin_any _ _ _ _ hall (Nat.le_refl _) (by simp; omega)).mono ?_
  rintro e w2 ⟨v2, rfl, ho2, hb2⟩
  have hb2' := bgo (balloc w1 (.cells #[.slice A rest.length c] 23)) hb2
  replace ho2 : OwnB w2 w1.heap.size v2 rest := by simpa using ho2.mono (balloc w1 (.cells #[.slice A rest.length c] 23)).size
  dsimp only
  have hb3 := balloc w2 (.cells #[.int .u8 128] 5)
  have hs3 := (one_byte w2 128 128 rfl).sees
  have ho3 := ho2.below hb3
  have hl3 : rest.length + [(128 : UInt8)].length ≤ 140737488355328 := by simp; omega
  have hz3 : w1.heap.size ≤ (w2.alloc (.cells #[.int .u8 128] 5)).heap.size := Nat.le_trans hb2'.size hb3.size
  replace hs3 := Lib.hid hs3
  replace ho3 := Lib.hid ho3
  replace hl3 := Lib.hid hl3
  replace hz3 := Lib.hid hz3
  go_wp2_with (at_builtin; refine wpList_app (by rfl) _ _ rfl w1.heap.size _ rest rfl ho3.out _ _ [128] rfl hs3.out hl3.out hz3.out ?_)
  intro v4 w4 ho4 hb4
  have hall4 := (hb2'.trans (hb3.mono hb2'.size)).trans hb4
  replace ho4 := Lib.hid ho4
  replace hall4 := Lib.hid hall4
  clear hb2 hb2' ho2 hb3 hs3 ho3 hl3 hz3 hb4 hall
  go_wp2_with fail
  go_loopw [8] (fun v wr => ∃ k : Nat, k ≤ padK rest.length ∧ Hid (OwnB wr w1.heap.size v (rest ++ [128] ++ List.replicate k 0)) ∧ Hid (Below w1.heap.size w1 wr)) (fun v _ => (match v with | .slice _ n _ => rest.length + 1 + padK rest.length - n | _ => 0))
  case atStart => exact ⟨0, by omega, by show OwnB _ _ _ _; simpa using ho4.out, hall4⟩
  case round =>
    clear ho4 hall4
    obtain ⟨k, hk, ho, hall⟩ := hrel
    obtain ⟨A5, c5, rfl, -, -⟩ := ho.out.sees.mk_
    have hlen : (rest ++ [128] ++ List.replicate k (0 : UInt8)).length = rest.length + 1 + k := by simp; omega
    have hsnoc : Hid (rest ++ [128] ++ List.replicate k (0 : UInt8) ++ [0] = rest ++ [128] ++ List.replicate (k + 1) 0) := by show _ = _; rw [List.replicate_succ', List.append_assoc _ _ [0]]
    have hmore := padK_more rest.length k hr hk
    have hend := padK_end rest.length k hr hk
    have hfin : Hid (k = padK rest.length → rest ++ [128] ++ List.replicate k (0 : UInt8) ++ putB 8 (count * 8) = rest ++ padding rest.length count) := fun e => by subst e; simp [padding, padK]
    rw [hlen] at ho ⊢
    generalize hacc : rest ++ [128] ++ List.replicate k (0 : UInt8) = acc at *
    replace hacc := Lib.hid hacc
    have HL := Lib.hid hlen
    replace hmore := Lib.hid hmore
    replace hend := Lib.hid hend
    replace hk := Lib.hid hk
    clear hlen
    by_cases h56 : (rest.length + 1 + k) % 64 = 56
    · have i56 : ((rest.length + 1 + k : Nat) : Int) % 64 = 56 := by omega
      have hE := Lib.hid (hfin (hend.out h56))
      have hEl := Lib.hid (show (rest ++ padding rest.length count).length = szOf rest.length by rw [List.length_append, pad_len _ _ hr])
      clear hfin hsnoc hmore hend
      go_wp2_with fail
      refine (rput8c count hcount _).mono ?_
      rintro e w6 ⟨v6, rfl, h6, hb6⟩
      have hall6 := Lib.hid (hall.out.trans (hb6.mono hall.out.size))
      have ho6 := Lib.hid (OwnB.below (v := .slice A5 (rest.length + 1 + k) c5) ho.out hb6)
      have hs6 := Lib.hid h6.sees
      have hl6 := Lib.hid (show acc.length + (putB 8 (count * 8)).length ≤ 140737488355328 by have := HL.out; have := hk.out; have h1 : padK rest.length ≤ 119 := (by unfold padK; split <;> omega); rw [putB_len]; omega)
      clear h6 hb6 ho hall
      dsimp only
      go_wp2_with (at_builtin; refine wpList_app (by rfl) _ _ rfl w1.heap.size _ acc rfl ho6.out _ _ _ rfl hs6.out hl6.out hall6.out.size ?_)
      intro v7 w7 ho7 hb7
      rw [hE.out] at ho7
      have hall7 := Lib.hid (hall6.out.trans hb7)
      have hsb := Lib.hid ho7.sees
      have hk7 := Lib.hid (Sees.below hk1.out hall7.out)
      have hh7 := Lib.hid (Sees.below (Sees.below hh.out (hb1.mono hB)) (hall7.out.mono (Nat.le_trans hB hb1.size)))
      have hB1 := hb1.size
      have hw7 : Hid (Below w.heap.size w w7) := bgo hb1 hall7.out
      obtain ⟨A8, c8, rfl, hc8, hc9⟩ := hsb.out.mk_
      have hfin : Hid (out (absorb s (rest ++ padding rest.length count) ((rest ++ padding rest.length count).length / 64)) = finish s rest count) := rfl
      clear ho7 hs6 hl6 ho6 hall6 hk1 hh hu hE
      generalize rest ++ padding rest.length count = E at *
      have hEm : Hid (E.length % 64 = 0) := by show _ = _; rw [hEl.out]; unfold szOf; split <;> rfl
      have hE2 : E.length ≤ 128 := by rw [hEl.out]; unfold szOf; split <;> omega
      go_wp2_with fail
      go_loopw [0, 9] (fun hv t wr => ∃ j i : Nat, Hid (i = 64 * j) ∧ i ≤ E.length ∧ t = .int .i64 (i : Int) ∧ Hid (SeesW wr wr.heap.size hv (stList (absorb s E j))) ∧ Hid (Below w7.heap.size w7 wr)) (fun _ t _ => E.length - (intOf t).toNat)
      case atStart => exact ⟨0, 0, rfl, by omega, rfl, Sees.more hh7.out (Nat.le_trans hB (Nat.le_trans hB1 hall7.out.size)), Below.refl _ _⟩
      case round =>
        clear hh7
        obtain ⟨j, i, hij, hi, rfl, hh, hbw⟩ := hrel
        by_cases hlt : i < E.length
        · have hi64 : i + 64 ≤ E.length := by have h1 := hij.out; have h2 := hEm.out; omega
          have hr := run_cut (P := Tryz.prog) 23 Tryz.underlying23 1 byte_size A8 E.length c8 .i64 .i64 (i : Int) ((i : Int) + 64) (by omega) (by omega) (by omega)
          rw [show ((i : Int) + 64).toNat = i + 64 from by omega, Int.toNat_natCast, Nat.add_sub_cancel_left] at hr
          have hcut := SeesB.cut (a := i) (b := i + 64) (hsb.out.below (hbw.out.mono hall7.out.size |> fun h => by exact Below.mono hbw.out (Nat.le_refl _))) (by omega) hi64
          rw [Nat.add_sub_cancel_left] at hcut
          have hck : Hid (compress (absorb s E j) ((E.drop i).take 64) = absorb s E (j + 1)) := by rw [hij.out]; exact rfl
          have hkr : SeesW wr wr.heap.size vk kTab := Sees.more (Sees.below hk7.out (hbw.out.mono hall7.out.size)) (Nat.le_trans hall7.out.size hbw.out.size)
          have hblk := rblock_sees (absorb s E j) ((E.drop i).take 64) _ vk _ wr.heap.size wr hh.out hkr (hcut.more hbw.out.size) (by rw [List.length_take, List.length_drop]; omega) (Nat.le_refl _)
          generalize cutA A8 c8 i 1 = A9 at hr hblk
          replace hblk := Lib.hid hblk
          have i0 : (0 : Int) ≤ (i : Int) := by omega
          have i1 : (i : Int) < (E.length : Int) := by omega
          have i2 : IntKind.i64.wrap ((i : Int) + 64) = (i : Int) + 64 := by rw [IntKind.wrap_i64]; omega
          clear hcut hkr
          go_wp2_with fail
          refine hblk.out.mono ?_
          rintro e w9 ⟨v9, rfl, h9, hb9⟩
          have hb9' := Lib.hid (bgo hbw.out hb9)
          rw [hck.out] at h9
          replace h9 := Lib.hid h9
          clear hblk hh hbw hb9 hck hr
          dsimp only
          go_wp2_with fail
          go_roundw
          case rel => exact ⟨j + 1, i + 64, by have := hij.out; show _ = _; omega, hi64, by go_num, h9, hb9'⟩
          case measure => simp [intOf]; omega
        · have hjl : Hid (absorb s E j = absorb s E (E.length / 64)) := by
            have h1 := hij.out
            have : j = E.length / 64 := by omega
            rw [← this]; exact rfl
          rw [hjl.out] at hh
          generalize absorb s E (E.length / 64) = q at hh hfin
          obtain ⟨g8, o8, c9, rfl, lg, hcell⟩ := hh.out.at_ (by simp [stList])
          replace hcell : Hid (∀ j, j < 8 → wr.cell? ⟨g8, o8 + j, none⟩ = some (wdV (stAt q j))) := fun j hj => by rw [← stAt_get q j hj]; exact hcell j hj
          have hwr : Hid (Below w.heap.size w wr) := bgo hw7.out hbw.out
          clear hh
          go_wp2_with fail
          obtain ⟨wl, rfl⟩ : ∃ wl : World, wl = wr := ⟨_, rfl⟩
          refine wp_fresh (fun W => OwnB W wl.heap.size (.slice (some ⟨wl.heap.size, 0, none⟩) 0 0) [] ∧ Below wl.heap.size wl W) ⟨own_made wl [] (Nat.zero_le _) _ (Nat.le_refl _), (Below.refl _ _).alloc (Nat.le_refl _) _⟩ ?_
          rintro W9 ⟨ho9, hb9⟩
          replace ho9 := Lib.hid ho9
          replace hb9 := Lib.hid hb9
          go_loopw [10, 11] (fun r t wr => ∃ k : Nat, k ≤ 8 ∧ t = .int .i64 k ∧ Hid (OwnB wr wl.heap.size r (outOf ((stList q).take k))) ∧ Hid (Below wl.heap.size wl wr)) (fun _ t _ => 8 - (intOf t).toNat)
          case atStart => exact ⟨0, by omega, rfl, ho9, hb9⟩
          case round =>
            clear ho9 hb9
            obtain ⟨k, hk, rfl, ho, hb⟩ := hrel
            by_cases hlt : k < 8
            · have hst := Lib.hid (out_step q k hlt)
              have hol := Lib.hid (show (outOf ((stList q).take k)).length ≤ 32 by
                rcases (by omega : k = 0 ∨ k = 1 ∨ k = 2 ∨ k = 3 ∨ k = 4 ∨ k = 5 ∨ k = 6 ∨ k = 7) with rfl | rfl | rfl | rfl | rfl | rfl | rfl | rfl
                all_goals simp [outOf, stList, putB_len])
              have x0 := (hb.out.cell (p := ⟨g8, o8 + k, none⟩) lg).trans (hcell.out k hlt)
              unfold wdV at x0
              generalize stAt q k = x at x0 hst
              generalize outOf ((stList q).take k) = acc at ho hst hol
              have hx := x.isLt
              have mx : IntKind.u64.wrap (x.toNat : Int) = (x.toNat : Int) := by rw [IntKind.wrap_u64]; omega
              have hput := Lib.hid (rput_any x.toNat 4 (by omega) (by omega))
              have i0 : (0 : Int) ≤ (k : Int) := by omega
              have i1 : (k : Int) < 8 := by omega
              have hlen8 : (stList q).length = 8 := rfl
              rw [hlen8]
              clear hx
              go_wp2_with fail
              refine (hput.out _).mono ?_
              rintro e w10 ⟨v10, rfl, h10, hb10⟩
              have hs10 := Lib.hid h10.sees
              obtain ⟨Ar, cr, rfl, -, -⟩ := ho.out.sees.mk_
              have ho10 := Lib.hid (ho.out.below hb10)
              have hbb10 := Lib.hid (hb.out.trans (hb10.mono hb.out.size))
              have hl10 := Lib.hid (show acc.length + (putB 4 x.toNat).length ≤ 140737488355328 by rw [putB_len]; have := hol.out; omega)
              clear h10 hb10 ho hb hol hput
              dsimp only
              go_wp2_with (at_builtin; refine wpList_app (by rfl) _ _ rfl wl.heap.size _ acc rfl ho10.out _ _ (putB 4 x.toNat) rfl hs10.out hl10.out hbb10.out.size ?_)
              intro v' w' hW2 hb2
              have hW2 := Lib.hid hW2
              have hb2 := Lib.hid hb2
              go_wp2_with fail
              go_roundw
              case rel => exact ⟨k + 1, by omega, by go_num, by rw [hst.out]; exact hW2.out, hbb10.out.trans hb2.out⟩
              case measure => simp [intOf]; omega
            · have he : outOf ((stList q).take k) = finish s rest count := by
                rw [List.take_of_length_le (by simp [stList]; omega)]; exact hfin.out
              rw [he] at ho
              go_wp2_with fail
              go_ret
              exact ⟨_, rfl, ho.out.mono hwr.out.size, bgo hwr.out hb.out⟩
    · have i56 : ¬ (((rest.length + 1 + k : Nat) : Int) % 64 = 56) := by omega
      have hb6 := balloc wr (.cells #[.int .u8 0] 5)
      have hs6 := Lib.hid (one_byte wr 0 0 rfl).sees
      have ho6 := Lib.hid (OwnB.below (v := .slice A5 (rest.length + 1 + k) c5) ho.out hb6)
      have hl6 := Lib.hid (show acc.length + [(0 : UInt8)].length ≤ 140737488355328 by have := HL.out; have := hk.out; have h1 : padK rest.length ≤ 119 := (by unfold padK; split <;> omega); simp; omega)
      have hall6 := Lib.hid (hall.out.trans (hb6.mono hall.out.size))
      clear hb6 ho hall
      go_wp2_with (at_builtin; refine wpList_app (by rfl) _ _ rfl w1.heap.size _ acc rfl ho6.out _ _ [0] rfl hs6.out hl6.out hall6.out.size ?_)
      intro v7 w7 ho7 hb7
      replace ho7 := Lib.hid ho7
      replace hb7 := Lib.hid hb7
      go_wp2_with fail
      go_roundw
      case rel => exact ⟨k + 1, hmore.out h56, by rw [← hsnoc.out]; exact ho7.out, hall6.out.trans hb7.out⟩
      case measure =>
        obtain ⟨A8, c8, rfl, -, -⟩ := ho7.out.sees.mk_
        have := HL.out; have := hmore.out h56
        simp; omega
set_option maxRecDepth 100000 in
theorem rsum_any (B : Nat) (u : Value) (bs : Bs) (w : World) (hu : SeesB w B u bs) (hB : B ≤ w.heap.size) (hlen : bs.length ≤ 1099511627776) :
    Calls Tryz.prog 13 #[u] w (Gives (sha bs) w) := by
  obtain ⟨A, c, rfl, hc1, hc2⟩ := hu.mk_
  have hu := Lib.hid hu
  go_enter Tryz.func13, Tryz.ntmps13
  go_wp2_with fail
  refine (rfirst_any _).mono ?_
  rintro e w1 ⟨vh, rfl, hh1, hb1⟩
  dsimp only
  go_wp2_with fail
  refine (rconst_any _).mono ?_
  rintro e w2 ⟨vk, rfl, hk2, hb2⟩
  have hw2 := Lib.hid (bgo hb1 hb2)
  have hh2 := Lib.hid (Sees.more (Sees.below hh1 hb2) hb2.size)
  have hu2 := Lib.hid (hu.out.below (hw2.out.mono hB))
  replace hk2 := Lib.hid hk2
  clear hb1 hb2 hh1 hu
  dsimp only
  go_wp2_with fail
  go_loopw [3, 6] (fun hv t wr => ∃ j i : Nat, Hid (i = 64 * j) ∧ i ≤ bs.length ∧ t = .int .i64 (i : Int) ∧ Hid (SeesW wr wr.heap.size hv (stList (absorb st0 bs j))) ∧ Hid (Below w2.heap.size w2 wr)) (fun _ t _ => bs.length - (intOf t).toNat)
  case atStart => exact ⟨0, 0, rfl, by omega, rfl, hh2, Below.refl _ _⟩
  case round =>
    clear hh2
    obtain ⟨j, i, hij, hi, rfl, hh, hbw⟩ := hrel
    by_cases hlt : i < bs.length / 64 * 64
    · have hi64 : i + 64 ≤ bs.length := by have h1 := hij.out; omega
      have hr := run_cut (P := Tryz.prog) 23 Tryz.underlying23 1 byte_size A bs.length c .i64 .i64 (i : Int) ((i : Int) + 64) (by omega) (by omega) (by omega)
      rw [show ((i : Int) + 64).toNat = i + 64 from by omega, Int.toNat_natCast, Nat.add_sub_cancel_left] at hr
      have hcut := SeesB.cut (a := i) (b := i + 64) (hu2.out.below (hbw.out.mono (Nat.le_trans hB hw2.out.size))) (by omega) hi64
      rw [Nat.add_sub_cancel_left] at hcut
      have hck : Hid (compress (absorb st0 bs j) ((bs.drop i).take 64) = absorb st0 bs (j + 1)) := by rw [hij.out]; exact rfl
      have hkr : SeesW wr wr.heap.size vk kTab := Sees.more (Sees.below hk2.out hbw.out) hbw.out.size
      have hblk := rblock_sees (absorb st0 bs j) ((bs.drop i).take 64) _ vk _ wr.heap.size wr hh.out hkr (hcut.more (Nat.le_trans hB (Nat.le_trans hw2.out.size hbw.out.size))) (by rw [List.length_take, List.length_drop]; omega) (Nat.le_refl _)
      generalize cutA A c i 1 = A9 at hr hblk
      replace hblk := Lib.hid hblk
      have i0 : (0 : Int) ≤ (i : Int) := by omega
      have i1 : (i : Int) < (bs.length : Int) / 64 * 64 := by omega
      have i2 : IntKind.i64.wrap ((i : Int) + 64) = (i : Int) + 64 := by rw [IntKind.wrap_i64]; omega
      clear hcut hkr
      go_wp2_with fail
      refine hblk.out.mono ?_
      rintro e w9 ⟨v9, rfl, h9, hb9⟩
      have hb9' := Lib.hid (bgo hbw.out hb9)
      rw [hck.out] at h9
      replace h9 := Lib.hid h9
      clear hblk hh hbw hb9 hck hr
      dsimp only
      go_wp2_with fail
      go_roundw
      case rel => exact ⟨j + 1, i + 64, by have := hij.out; show _ = _; omega, hi64, by go_num, h9, hb9'⟩
      case measure => simp [intOf]; omega
    · have hjl : j = bs.length / 64 := by have h1 := hij.out; omega
      have hil : i = 64 * (bs.length / 64) := by have h1 := hij.out; omega
      have hsha : Hid (finish (absorb st0 bs j) (bs.drop i) bs.length = sha bs) := by rw [hjl, hil]; exact rfl
      have hr := run_cut_from (P := Tryz.prog) 23 Tryz.underlying23 1 byte_size A bs.length c .i64 ((bs.length : Int) / 64 * 64) (by omega) (by omega)
      rw [show ((bs.length : Int) / 64 * 64).toNat = i from by omega] at hr
      have hcut := SeesB.cut (a := i) (b := bs.length) (hu2.out.below (hbw.out.mono (Nat.le_trans hB hw2.out.size))) hi (Nat.le_refl _)
      rw [List.take_of_length_le (by rw [List.length_drop]; omega)] at hcut
      have hfin := rfinish_any (absorb st0 bs j) wr.heap.size _ _ (bs.drop i) bs.length wr hh.out (hcut.more (Nat.le_trans hB (Nat.le_trans hw2.out.size hbw.out.size))) (Nat.le_refl _) (by rw [List.length_drop]; omega) hlen
      generalize cutA A c i 1 = A9 at hr hfin
      replace hfin := Lib.hid hfin
      have i1 : ¬ ((i : Int) < (bs.length : Int) / 64 * 64) := by omega
      replace hjl := Lib.hid hjl
      replace hil := Lib.hid hil
      clear hcut
      go_wp2_with fail
      refine hfin.out.mono ?_
      rintro e w9 ⟨v9, rfl, h9, hb9⟩
      rw [hsha.out] at h9
      dsimp only
      go_wp2_with fail
      go_ret
      exact ⟨_, rfl, h9.mono (Nat.le_trans hw2.out.size hbw.out.size), bgo (bgo hw2.out hbw.out) hb9⟩
set_option maxRecDepth 100000 in
theorem rshort_any (B : Nat) (u : Value) (bs : Bs) (w : World) (hu : SeesB w B u bs) (hB : B ≤ w.heap.size) (hlen : bs.length ≤ 1099511627776) :
    Calls Tryz.prog 99 #[u] w (Shows (short bs) w) := by
  have hs := rsum_any B u bs w hu hB hlen
  have hl := sha_len bs
  go_enter Tryz.func99, Tryz.ntmps99
  go_wp2_with (go_at_call 13; refine hs.mono ?_; rintro e w' ⟨v, rfl, h1, hb⟩; obtain ⟨A, c, rfl, hc1, hc2⟩ := h1.sees.mk_)
  go_ret
  have h2 := h1.sees.take (m := 16) (c' := c) (by omega) (by omega) hc2
  exact ⟨.slice A 16 c, rfl, h2, hb, h1.from.cut⟩
end
section
open Go.RowKit
set_option linter.unusedVariables false
attribute [local go_sem ↓] Go.wp_at_zero Go.wp_at_succ
set_option maxRecDepth 100000 in
theorem rchain_any (B : Nat) (u : Value) (bs : Bs) (n : Int) (w : World) (hu : SeesB w B u bs) (hB : B ≤ w.heap.size) (hlen : bs.length ≤ 1099511627776) :
    Calls Tryz.prog 98 #[u, .int .i64 n] w (Shows (chainH (chainN n) bs) w) := by
  obtain ⟨A, c, rfl, hc1, hc2⟩ := hu.mk_
  have hl1 := seesL_lit w 23 (show SeesAll w w.heap.size [.slice A bs.length c] [bs] from ⟨hu.more hB, trivial⟩) (by simp [maxLen])
  have hj := rjoin_any _ _ _ _ hl1 (Nat.le_refl _) (by simpa using hlen)
  replace hj := Lib.hid hj
  clear hl1 hu
  go_enter Tryz.func98, Tryz.ntmps98
  go_wp2_with fail
  refine hj.out.mono ?_
  rintro e w1 ⟨v, rfl, h1, hb1⟩
  have hb1 : Hid (Below w.heap.size w w1) := bgo (balloc w (.cells #[.slice A bs.length c] 23)) hb1
  have hf1 : Hid (From w.heap.size v) := h1.from.mono (balloc w (.cells #[.slice A bs.length c] 23)).size
  have h1 : Hid (SeesB w1 w1.heap.size v bs) := by show SeesB _ _ _ _; have := h1.sees; simpa using this
  have hN : Hid (∀ k : Nat, k < chainN n ↔ ((k : Int) < n ∧ (k : Int) < 65536)) := fun k => by unfold chainN; omega
  have hcN : chainN n ≤ 65536 := by unfold chainN; omega
  generalize chainN n = N at *
  dsimp only
  go_wp2_with fail
  go_loopw [5, 6] (fun v t wr => ∃ k : Nat, k ≤ N ∧ t = .int .i64 k ∧ Hid (SeesB wr wr.heap.size v (chainH k bs)) ∧ Hid (Below w.heap.size w wr) ∧ Hid (From w.heap.size v)) (fun _ t _ => N - (intOf t).toNat)
  case atStart => exact ⟨0, by omega, rfl, h1, hb1, hf1⟩
  case round =>
    clear h1 hb1 hj hf1
    obtain ⟨k, hk, rfl, h1, hb1, hf1⟩ := hrel
    by_cases hlt : k < N
    · obtain ⟨i1, i2⟩ := (hN.out k).1 hlt
      have hl : (chainH k bs).length ≤ 1099511627776 := by
        cases k with
        | zero => exact hlen
        | succ k => rw [chainH, short_len]; omega
      have hs := rshort_any _ _ _ _ h1.out (Nat.le_refl _) hl
      replace hs := Lib.hid hs
      clear hl
      go_wp2_with (go_at_call 99; refine hs.out.mono ?_; rintro e w2 ⟨v2, rfl, h2, hb2, hf2⟩)
      replace hf2 := Lib.hid (hf2.mono hb1.out.size)
      replace h2 := Lib.hid h2
      replace hb2 := Lib.hid hb2
      go_roundw
      case rel => exact ⟨k + 1, by omega, by go_num, h2, bgo hb1.out hb2.out, hf2⟩
      case measure => simp [intOf]; omega
    · have hkN : k = N := by omega
      rw [hkN] at h1
      by_cases i1 : (k : Int) < n
      · have i2 : ¬ ((k : Int) < 65536) := fun h => hlt ((hN.out k).2 ⟨i1, h⟩)
        replace hkN := Lib.hid hkN
        go_wp2_with fail
        go_ret
        exact ⟨_, rfl, h1.out, hb1.out, hf1.out⟩
      · replace hkN := Lib.hid hkN
        go_wp2_with fail
        go_ret
        exact ⟨_, rfl, h1.out, hb1.out, hf1.out⟩
end
end Go.Proofs.YtamdgjgommejjaaGreat

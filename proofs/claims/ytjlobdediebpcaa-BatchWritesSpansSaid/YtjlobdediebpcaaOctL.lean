/- Lists of bytes in memory: what a slice of bytes shows, what a call's own one holds; the numbers of octets. No program in sight. -/
import Derived.Test.YtjlobdediebpcaaSha
import Derived.Test.YtjlobdediebpcaaMem
import Derived.Laws.Bits64b
import Derived.Shelf.Bytes.SlSmallAll
namespace Go.Proofs.Ytjlobdediebpcaa
open Go.RowKit
theorem wp_fresh {P : Program} {code : Code} {Q : Exit → Act → World → Prop} {a : Act} {w : World} {o : Obj} (R : World → Prop) (h1 : R (w.alloc o)) (h2 : ∀ W, R W → Code.wp P code Q a W) : Code.wp P code Q a (w.alloc o) := h2 _ h1
theorem wp_some {P : Program} {code : Code} {Q : Exit → Act → World → Prop} {a : Act} {w : World} (R : World → Prop) (h1 : R w) (h2 : ∀ W, R W → Code.wp P code Q a W) : Code.wp P code Q a w := h2 _ h1
theorem bgo {a b c : World} (h1 : Below a.heap.size a b) (h2 : Below b.heap.size b c) : Below a.heap.size a c := h1.trans (h2.mono h1.size)
theorem balloc (w : World) (o : Obj) : Below w.heap.size w (w.alloc o) := (Below.refl _ _).alloc (Nat.le_refl _) _
theorem bdrew (w : World) : Below w.heap.size w w.drew := (Below.refl _ _).drew
/-- Block g holds exactly these cells. -/
def Box (w : World) (g : Nat) (T : TypeId) (xs : List Value) : Prop := w.heap[g]? = some (.cells xs.toArray T)
theorem Box.new (w : World) (T : TypeId) (xs : List Value) : Box (w.alloc (.cells xs.toArray T)) w.heap.size T xs := heap_alloc_new w _
theorem Box.lt {w : World} {g : Nat} {T : TypeId} {xs : List Value} (h : Box w g T xs) : g < w.heap.size := (Array.getElem?_eq_some_iff.1 h).1
theorem Box.below {w w' : World} {g : Nat} {T : TypeId} {xs : List Value} (h : Box w g T xs) (hb : Below w.heap.size w w') : Box w' g T xs := (hb.block g h.lt).trans h
theorem Box.cell {w : World} {g : Nat} {T : TypeId} {xs : List Value} (h : Box w g T xs) (j : Nat) : w.cell? ⟨g, j, none⟩ = xs[j]? := block_cell h j
theorem Box.set {w : World} {g : Nat} {T : TypeId} {xs : List Value} (h : Box w g T xs) (j : Nat) (v : Value) : Box (w.setCell ⟨g, j, none⟩ v) g T (xs.set j v) := by
  have := set_block w g j v h
  simpa [Box] using this
theorem Box.frozen {w : World} {g : Nat} {T : TypeId} {xs : List Value} (h : Box w g T xs) (j : Nat) : w.frozen? ⟨g, j, none⟩ = false := frozen_of_row w g j _ _ h
/-- The cells of a list of bytes. -/
def vb (l : Bs) : List Value := l.map byV
theorem vb_len (l : Bs) : (vb l).length = l.length := by simp [vb]
theorem vb_get (l : Bs) (j : Nat) : (vb l)[j]? = l[j]?.map byV := by simp [vb]
theorem vb_append (a b : Bs) : vb (a ++ b) = vb a ++ vb b := by simp [vb]
theorem vb_one (l : Bs) : ∀ u ∈ vb l, u.oneCell' = true := by
  intro u hu
  obtain ⟨x, _, rfl⟩ := List.mem_map.1 hu
  rfl
theorem vb_rep (n : Nat) : List.replicate n (Value.int .u8 0) = vb (List.replicate n 0) := by simp [vb, byV]
theorem vb_set (l : Bs) (j : Nat) (x : UInt8) : (vb l).set j (byV x) = vb (l.set j x) := by simp [vb, List.map_set]
theorem byV_nat (n : Nat) : Value.int .u8 ((n : Int) % 256) = byV (UInt8.ofNat n) := by
  unfold byV
  simp
theorem by_lt (x : UInt8) : (x.toNat : Int) < 256 := by have := x.toNat_lt; omega
/-- The value shows these bytes. -/
def SeesB (w : World) (B : Nat) (v : Value) (l : Bs) : Prop := Sees w B v 1 l.length (vb l)
/-- The value is a row of the call's own with these bytes. -/
def OwnB (w : World) (base : Nat) (v : Value) (l : Bs) : Prop := w.ownsRow base 5 1 v l.length (vb l)
/-- The call returns these bytes in a row of its own, and changes nothing that was there. -/
def Gives (l : Bs) (w : World) (e : Ending) (w' : World) : Prop := ∃ v, e = .returned v ∧ OwnB w' w.heap.size v l ∧ Below w.heap.size w w'
theorem OwnB.sees {w : World} {base : Nat} {v : Value} {l : Bs} (h : OwnB w base v l) : SeesB w w.heap.size v l := Sees.of_own h
theorem OwnB.below {w w' : World} {base : Nat} {v : Value} {l : Bs} (h : OwnB w base v l) (hb : Below w.heap.size w w') : OwnB w' base v l := own_below h hb
theorem OwnB.mono {w : World} {base base' : Nat} {v : Value} {l : Bs} (h : OwnB w base v l) (hb : base' ≤ base) : OwnB w base' v l := by
  refine ⟨h.1, ?_⟩
  rcases h.2 with h | ⟨g, cap, cur, h1, h2, h3⟩
  · exact .inl h
  · exact .inr ⟨g, cap, cur, h1, by omega, h3⟩
section
variable {w w' : World} {B B' : Nat} {v : Value} {l : Bs}
theorem SeesB.nil (w : World) (B : Nat) : SeesB w B (.slice none 0 0) [] := Sees.nil w B 1
theorem SeesB.mk_ (h : SeesB w B v l) : ∃ A c, v = .slice A l.length c ∧ l.length ≤ c ∧ c ≤ maxLen := Sees.mk_ h
theorem SeesB.at_ {A : Option Addr} {n c : Nat} (h : SeesB w B (.slice A n c) l) (hn : 0 < l.length) : ∃ b o, A = some ⟨b, o, none⟩ ∧ b < B ∧ ∀ j, j < l.length → w.cell? ⟨b, o + j, none⟩ = some (byV (l.getD j 0)) := by
  obtain ⟨_, A', c', hv, h1, h2, h3⟩ := h
  injection hv with e1 e2 e3
  subst e1
  obtain ⟨b, o, e, hb, hc⟩ := h3 hn
  refine ⟨b, o, e, hb, fun j hj => hc j _ ?_⟩
  rw [vb_get, List.getElem?_eq_getElem hj, Option.map_some, List.getD_eq_getElem?_getD, List.getElem?_eq_getElem hj]
  rfl
theorem SeesB.below (h : SeesB w B v l) (hb : Below B w w') : SeesB w' B v l := Sees.below h hb
theorem SeesB.more (h : SeesB w B v l) (hB : B ≤ B') : SeesB w B' v l := Sees.more h hB
theorem SeesB.cut {A : Option Addr} {n c a b : Nat} (h : SeesB w B (.slice A n c) l) (hab : a ≤ b) (hb : b ≤ l.length) :
    SeesB w B (.slice (cutA A c a 1) (b - a) (c - a)) ((l.drop a).take (b - a)) := by
  have hn : n = l.length := by
    obtain ⟨_, A', c', hv, _⟩ := h
    injection hv
  subst hn
  have := Sees.cut (l := a) (h' := b) h hab hb
  rw [Nat.mul_one, Nat.mul_one] at this
  unfold SeesB
  rw [show ((l.drop a).take (b - a)).length = b - a from by rw [List.length_take, List.length_drop]; omega, show vb ((l.drop a).take (b - a)) = ((vb l).drop a).take (b - a) from by simp [vb, List.map_drop, List.map_take]]
  exact this
end
theorem putB_add (m k v : Nat) : putB (m + k) v = putB m (v / 256 ^ k) ++ putB k v := by
  induction k generalizing v with
  | zero => simp [putB]
  | succ k ih => rw [← Nat.add_assoc, putB, ih, putB, List.append_assoc, Nat.div_div_eq_div_mul, Nat.pow_succ, Nat.mul_comm 256]
theorem putB_zero (n : Nat) : putB n 0 = List.replicate n 0 := by
  induction n with
  | zero => rfl
  | succ n ih => rw [putB, ih, List.replicate_succ']; rfl
/-- A list with k bytes of a number at its end. -/
def tailB (n k v : Nat) : Bs := List.replicate (n - k) 0 ++ putB k v
theorem tailB_len (n k v : Nat) (h : k ≤ n) : (tailB n k v).length = n := by simp [tailB, putB_len]; omega
theorem tailB_step (n k v : Nat) (h : k < n) : (tailB n k v).set (n - 1 - k) (UInt8.ofNat (v / 256 ^ k)) = tailB n (k + 1) v := by
  unfold tailB
  obtain ⟨m, rfl⟩ : ∃ m, n = m + 1 + k := ⟨n - 1 - k, by omega⟩
  rw [show m + 1 + k - k = m + 1 from by omega, show m + 1 + k - 1 - k = m from by omega, show m + 1 + k - (k + 1) = m from by omega, Nat.add_comm k 1, putB_add 1 k, List.replicate_succ', List.append_assoc, List.set_append_right _ _ (by simp)]
  simp [putB]
theorem tailB_end (n k v : Nat) (h : k ≤ n) (h0 : k = n ∨ v / 256 ^ k = 0) : tailB n k v = putB n v := by
  unfold tailB
  rcases h0 with rfl | h0
  · simp
  · obtain ⟨m, rfl⟩ : ∃ m, n = m + k := ⟨n - k, by omega⟩
    rw [putB_add, h0, putB_zero, Nat.add_sub_cancel]
/-- A list of bytes as a string. -/
def strB (l : Bs) : ByteArray := ⟨l.toArray⟩
theorem strB_toList (l : Bs) : (strB l).toList = l := by
  rw [ByteArray.toList_eq]; rfl
/-- A string, taken out of a slice that shows these bytes. -/
theorem SeesB.string {w : World} {B : Nat} {A : Option Addr} {n c : Nat} {l : Bs} (h : SeesB w B (.slice A n c) l) :
    (convert 24 9 (.slice A n c)).run Try.prog w = .ok (.string (strB l)) w := by
  have hn : n = l.length := by
    obtain ⟨_, A', c', hv, _⟩ := h
    injection hv
  subst hn
  rcases Nat.eq_zero_or_pos l.length with h0 | h0
  · have : l = [] := List.eq_nil_of_length_eq_zero h0
    subst this
    exact Go.Proofs.run_convert_bytes_zero w 24 5 Try.underlying24 Try.underlying5 A c 9 Try.underlying9
  · obtain ⟨b, o, rfl, _, hc⟩ := h.at_ h0
    have := run_convert_bytes_arg (P := Try.prog) w 24 5 Try.underlying24 Try.underlying5 b o l.length c (l.map fun x => (x.toNat : Int)) (by simp) (fun i hi => by
      rw [hc i hi, byV]
      simp [List.getD_eq_getElem?_getD, List.getElem?_eq_getElem hi]) 9 Try.underlying9
    rw [this]
    simp [strOfNums, strB, List.map_map, Function.comp_def]
/-- The number in bytes, without an end. -/
def valB (l : Bs) : Nat := l.foldl (fun v x => v * 256 + x.toNat) 0
theorem foldl_val (l : Bs) (v : Nat) : l.foldl (fun v x => v * 256 + x.toNat) v = v * 256 ^ l.length + valB l := by
  unfold valB
  induction l generalizing v with
  | nil => simp
  | cons x l ih =>
    rw [List.foldl_cons, List.foldl_cons, ih, ih (0 * 256 + x.toNat), List.length_cons, Nat.pow_succ, Nat.add_mul, Nat.mul_assoc, Nat.mul_comm 256, Nat.zero_mul, Nat.zero_add, Nat.add_assoc]
theorem foldl_get (l : Bs) (v : Nat) : l.foldl (fun v x => (v * 256 + x.toNat) % 18446744073709551616) v % 18446744073709551616 = (v * 256 ^ l.length + valB l) % 18446744073709551616 := by
  rw [← foldl_val]
  induction l generalizing v with
  | nil => rfl
  | cons x l ih =>
    rw [List.foldl_cons, List.foldl_cons, ih, foldl_val, foldl_val, Nat.add_mod, Nat.mul_mod, Nat.mod_mod, ← Nat.mul_mod, ← Nat.add_mod]
theorem getB_lt (l : Bs) : getB l < 18446744073709551616 := by
  unfold getB
  rcases List.eq_nil_or_concat l with rfl | ⟨l, x, rfl⟩
  · decide
  · rw [List.concat_eq_append, List.foldl_append]; exact Nat.mod_lt _ (by decide)
theorem getB_val (l : Bs) : getB l = valB l % 18446744073709551616 := by
  have := foldl_get l 0
  rw [Nat.zero_mul, Nat.zero_add] at this
  rw [← this]
  exact (Nat.mod_eq_of_lt (getB_lt l)).symm
theorem getB_snoc (l : Bs) (x : UInt8) : getB (l ++ [x]) = (getB l * 256 + x.toNat) % 18446744073709551616 := by simp [getB]
theorem valB_append (a b : Bs) : valB (a ++ b) = valB a * 256 ^ b.length + valB b := by
  rw [← foldl_val]; simp [valB]
/-- Only the last eight bytes count. -/
theorem getB_last (l : Bs) : getB (l.drop (l.length - 8)) = getB l := by
  by_cases h : l.length ≤ 8
  · rw [Nat.sub_eq_zero_of_le h, List.drop_zero]
  · rw [getB_val, getB_val]
    conv => rhs; rw [← List.take_append_drop (l.length - 8) l, valB_append, List.length_drop, show l.length - (l.length - 8) = 8 from by omega]
    rw [show 256 ^ 8 = 18446744073709551616 from by decide, Nat.mul_comm, Nat.mul_add_mod]
theorem valB_put (n v : Nat) : valB (putB n v) = v % 256 ^ n := by
  induction n generalizing v with
  | zero => simp [putB, valB, Nat.mod_one]
  | succ n ih =>
    rw [putB, valB_append, ih]
    simp only [List.length_cons, List.length_nil, valB, List.foldl_cons, List.foldl_nil, Nat.zero_mul, Nat.zero_add, UInt8.toNat_ofNat', Nat.pow_one]
    rw [show 256 ^ (n + 1) = 256 * 256 ^ n from by rw [Nat.pow_succ, Nat.mul_comm], Nat.mod_mul (x := v) (a := 256) (b := 256 ^ n), show 2 ^ 8 = 256 from rfl, Nat.mul_comm 256]
    omega
/-- One step of Get, as the machine reckons it. -/
theorem get_step (v : Nat) (x : UInt8) : bits .or .u64 ((v : Int) * 256 % 18446744073709551616) (x.toNat : Int) = (((v * 256 + x.toNat) % 18446744073709551616 : Nat) : Int) := by
  have hx := x.toNat_lt
  rw [show (v : Int) * 256 % 18446744073709551616 = ((v * 256 % 18446744073709551616 : Nat) : Int) from by omega, Go.bits_or_u64_nat _ _ (Nat.mod_lt _ (by decide)) (by omega)]
  rw [show v * 256 % 18446744073709551616 = 2 ^ 8 * (v % 72057594037927936) from by omega, ← Nat.two_pow_add_eq_or_of_lt hx]
  omega
theorem get_step' (v : Nat) (x : UInt8) : bits .or .u64 (IntKind.u64.wrap ((v : Int) * 256)) (IntKind.u64.wrap (x.toNat : Int)) = (((v * 256 + x.toNat) % 18446744073709551616 : Nat) : Int) := by
  have hx := x.toNat_lt
  rw [IntKind.wrap_u64, IntKind.wrap_u64, show (x.toNat : Int) % 18446744073709551616 = (x.toNat : Int) from by omega]
  exact get_step v x
end Go.Proofs.Ytjlobdediebpcaa

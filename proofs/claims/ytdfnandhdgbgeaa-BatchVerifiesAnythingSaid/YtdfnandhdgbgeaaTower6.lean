/- Contracts of tree.Leaf, Node and of their reference: the hash of a leaf, and of two hashes. Conditions: at most 2^30 bytes of each. Contract of sectimeref07.split: the greatest power of two below a number. Conditions: the number is at least 2 and at most 2^40. Contracts of math/bits.Len at small numbers, and of tree.half. Conditions: those of each theorem. Contract of sectimeref07.root: the root of a hash tree. Conditions: at most 1024 leaves of at most 2^20 bytes. Contract of sectimeref07.root: the root of a hash tree. Conditions: at most 1024 leaves of at most 2^20 bytes. Contracts of sectimeref07.Root and of tree.divide. Conditions: those of each theorem. Contract of (tree.hashes).root: the root of the tree over hashes. Conditions: at most 1024 of 32 bytes. Contract of tree.of: the hashes of leaves, in a row of the call's own. Conditions: at most 1024 leaves of at most 2^20 bytes. Contract of tree.Root. Conditions: at most 1024 leaves of at most 2^20 bytes. -/
import Derived.Test.YtdfnandhdgbgeaaTower5
import Derived.Lib.Strings
import Derived.Lib.Slices
import Derived.Lib.Small
import Derived.Lib.Walk
import Derived.Lib.BitFns
namespace Go.Proofs.Ytdfnandhdgbgeaa
open Go.RowKit
set_option linter.unusedVariables false
attribute [local go_sem ↓] Go.wp_at_zero Go.wp_at_succ
def leafH (l : Bs) : Bs := sha (0 :: l)
def nodeH (a b : Bs) : Bs := sha (1 :: (a ++ b))
set_option maxRecDepth 100000 in
theorem leaf_any (B : Nat) (u : Value) (l : Bs) (w : World) (hu : SeesB w B u l) (hB : B ≤ w.heap.size) (hl : l.length ≤ 1073741824) :
    Calls Try.prog 88 #[u] w (Gives (leafH l) w) := by
  obtain ⟨A, c, rfl, hc1, hc2⟩ := hu.mk_
  replace hu := Lib.hid hu
  go_enter Try.func88, Try.ntmps88
  go_wp2_with fail
  have hb2 := balloc w (.cells #[.int .u8 0] 5)
  have h2 := one_byte w 0 0 rfl
  have hu2 := hu.out.below (hb2.mono hB)
  have hsz1 : (w.alloc (.cells #[.int .u8 0] 5)).heap.size = w.heap.size + 1 := World.size_alloc _ _
  rw [← hsz1]
  have hall := hb2
  generalize w.alloc (.cells #[.int .u8 0] 5) = w2 at *
  generalize hg1 : w.heap.size = g1 at hu2 h2 hall ⊢
  have hl3 := seesL_lit w2 22 (show SeesAll w2 w2.heap.size [.slice (some ⟨g1, 0, none⟩) 1 1, .slice A l.length c] [[0], l] from ⟨h2.sees, hu2.more (by have := hb2.size; omega), trivial⟩) (by simp [maxLen])
  have hfl : [[0], l].flatten = (0 : UInt8) :: l := by simp
  refine (join_any _ _ _ _ hl3 (Nat.le_refl _) (by rw [hfl]; simp; omega)).mono ?_
  rintro e w3 ⟨v3, rfl, h3, hb3⟩
  rw [hfl] at h3
  have hw3 := bgo (bgo hb2 (balloc w2 _)) hb3
  dsimp only
  go_wp2_with fail
  refine (sum_any _ _ _ _ h3.sees (Nat.le_refl _) (by simp; omega)).mono ?_
  rintro e w4 ⟨v4, rfl, h4, hb4⟩
  dsimp only
  go_wp2_with fail
  go_ret
  exact ⟨v4, rfl, h4.mono (hw3.size), bgo hw3 hb4⟩
set_option maxRecDepth 100000 in
theorem node_any (B : Nat) (u u2 : Value) (l l2 : Bs) (w : World) (hu : SeesB w B u l) (huu : SeesB w B u2 l2) (hB : B ≤ w.heap.size) (hl : l.length ≤ 1073741824) (hll : l2.length ≤ 1073741824) :
    Calls Try.prog 107 #[u, u2] w (Gives (nodeH l l2) w) := by
  obtain ⟨A, c, rfl, hc1, hc2⟩ := hu.mk_
  obtain ⟨AA, cc, rfl, hc3, hc4⟩ := huu.mk_
  replace hu := Lib.hid hu
  replace huu := Lib.hid huu
  go_enter Try.func107, Try.ntmps107
  go_wp2_with fail
  have hb2 := balloc w (.cells #[.int .u8 1] 5)
  have h2 := one_byte w 1 1 rfl
  have hu2 := hu.out.below (hb2.mono hB)
  have hu3 := huu.out.below (hb2.mono hB)
  have hsz1 : (w.alloc (.cells #[.int .u8 1] 5)).heap.size = w.heap.size + 1 := World.size_alloc _ _
  rw [← hsz1]
  have hall := hb2
  generalize w.alloc (.cells #[.int .u8 1] 5) = w2 at *
  generalize hg1 : w.heap.size = g1 at hu2 hu3 h2 hall ⊢
  have hl3 := seesL_lit w2 22 (show SeesAll w2 w2.heap.size [.slice (some ⟨g1, 0, none⟩) 1 1, .slice A l.length c, .slice AA l2.length cc] [[1], l, l2] from ⟨h2.sees, hu2.more (by have := hb2.size; omega), hu3.more (by have := hb2.size; omega), trivial⟩) (by simp [maxLen])
  have hfl : [[1], l, l2].flatten = (1 : UInt8) :: (l ++ l2) := by simp
  refine (join_any _ _ _ _ hl3 (Nat.le_refl _) (by rw [hfl]; simp; omega)).mono ?_
  rintro e w3 ⟨v3, rfl, h3, hb3⟩
  rw [hfl] at h3
  have hw3 := bgo (bgo hb2 (balloc w2 _)) hb3
  dsimp only
  go_wp2_with fail
  refine (sum_any _ _ _ _ h3.sees (Nat.le_refl _) (by simp; omega)).mono ?_
  rintro e w4 ⟨v4, rfl, h4, hb4⟩
  dsimp only
  go_wp2_with fail
  go_ret
  exact ⟨v4, rfl, h4.mono (hw3.size), bgo hw3 hb4⟩
set_option maxRecDepth 100000 in
theorem rleaf_any (B : Nat) (u : Value) (l : Bs) (w : World) (hu : SeesB w B u l) (hB : B ≤ w.heap.size) (hl : l.length ≤ 1073741824) :
    Calls Try.prog 108 #[u] w (Gives (leafH l) w) := by
  obtain ⟨A, c, rfl, hc1, hc2⟩ := hu.mk_
  replace hu := Lib.hid hu
  go_enter Try.func108, Try.ntmps108
  go_wp2_with fail
  have hb2 := balloc w (.cells #[.int .u8 0] 5)
  have h2 := one_byte w 0 0 rfl
  have hu2 := hu.out.below (hb2.mono hB)
  have hsz1 : (w.alloc (.cells #[.int .u8 0] 5)).heap.size = w.heap.size + 1 := World.size_alloc _ _
  rw [← hsz1]
  have hall := hb2
  generalize w.alloc (.cells #[.int .u8 0] 5) = w2 at *
  generalize hg1 : w.heap.size = g1 at hu2 h2 hall ⊢
  have hl3 := seesL_lit w2 22 (show SeesAll w2 w2.heap.size [.slice (some ⟨g1, 0, none⟩) 1 1, .slice A l.length c] [[0], l] from ⟨h2.sees, hu2.more (by have := hb2.size; omega), trivial⟩) (by simp [maxLen])
  have hfl : [[0], l].flatten = (0 : UInt8) :: l := by simp
  refine (rjoin_any _ _ _ _ hl3 (Nat.le_refl _) (by rw [hfl]; simp; omega)).mono ?_
  rintro e w3 ⟨v3, rfl, h3, hb3⟩
  rw [hfl] at h3
  have hw3 := bgo (bgo hb2 (balloc w2 _)) hb3
  dsimp only
  go_wp2_with fail
  refine (rsum_any _ _ _ _ h3.sees (Nat.le_refl _) (by simp; omega)).mono ?_
  rintro e w4 ⟨v4, rfl, h4, hb4⟩
  dsimp only
  go_wp2_with fail
  go_ret
  exact ⟨v4, rfl, h4.mono (hw3.size), bgo hw3 hb4⟩
set_option maxRecDepth 100000 in
theorem rnode_any (B : Nat) (u u2 : Value) (l l2 : Bs) (w : World) (hu : SeesB w B u l) (huu : SeesB w B u2 l2) (hB : B ≤ w.heap.size) (hl : l.length ≤ 1073741824) (hll : l2.length ≤ 1073741824) :
    Calls Try.prog 110 #[u, u2] w (Gives (nodeH l l2) w) := by
  obtain ⟨A, c, rfl, hc1, hc2⟩ := hu.mk_
  obtain ⟨AA, cc, rfl, hc3, hc4⟩ := huu.mk_
  replace hu := Lib.hid hu
  replace huu := Lib.hid huu
  go_enter Try.func110, Try.ntmps110
  go_wp2_with fail
  have hb2 := balloc w (.cells #[.int .u8 1] 5)
  have h2 := one_byte w 1 1 rfl
  have hu2 := hu.out.below (hb2.mono hB)
  have hu3 := huu.out.below (hb2.mono hB)
  have hsz1 : (w.alloc (.cells #[.int .u8 1] 5)).heap.size = w.heap.size + 1 := World.size_alloc _ _
  rw [← hsz1]
  have hall := hb2
  generalize w.alloc (.cells #[.int .u8 1] 5) = w2 at *
  generalize hg1 : w.heap.size = g1 at hu2 hu3 h2 hall ⊢
  have hl3 := seesL_lit w2 22 (show SeesAll w2 w2.heap.size [.slice (some ⟨g1, 0, none⟩) 1 1, .slice A l.length c, .slice AA l2.length cc] [[1], l, l2] from ⟨h2.sees, hu2.more (by have := hb2.size; omega), hu3.more (by have := hb2.size; omega), trivial⟩) (by simp [maxLen])
  have hfl : [[1], l, l2].flatten = (1 : UInt8) :: (l ++ l2) := by simp
  refine (rjoin_any _ _ _ _ hl3 (Nat.le_refl _) (by rw [hfl]; simp; omega)).mono ?_
  rintro e w3 ⟨v3, rfl, h3, hb3⟩
  rw [hfl] at h3
  have hw3 := bgo (bgo hb2 (balloc w2 _)) hb3
  dsimp only
  go_wp2_with fail
  refine (rsum_any _ _ _ _ h3.sees (Nat.le_refl _) (by simp; omega)).mono ?_
  rintro e w4 ⟨v4, rfl, h4, hb4⟩
  dsimp only
  go_wp2_with fail
  go_ret
  exact ⟨v4, rfl, h4.mono (hw3.size), bgo hw3 hb4⟩
end Go.Proofs.Ytdfnandhdgbgeaa
namespace Go.Proofs.Ytdfnandhdgbgeaa
open Go.RowKit
set_option linter.unusedVariables false
attribute [local go_sem ↓] Go.wp_at_zero Go.wp_at_succ
def splitN (n : Nat) : Nat := 2 ^ (n - 1).log2
theorem splitN_of (n j : Nat) (h2 : 2 ≤ n) (h0 : 2 ^ j < n) (h1 : n ≤ 2 * 2 ^ j) : splitN n = 2 ^ j := by
  unfold splitN
  have h := (Nat.log2_eq_iff (n := n - 1) (k := j) (by omega)).2 ⟨by omega, by rw [Nat.pow_succ]; omega⟩
  rw [h]
theorem splitN_lt (n : Nat) (h2 : 2 ≤ n) : splitN n < n ∧ 0 < splitN n ∧ n ≤ 2 * splitN n := by
  unfold splitN
  have h := (Nat.log2_eq_iff (n := n - 1) (k := (n - 1).log2) (by omega)).1 rfl
  rw [Nat.pow_succ] at h
  exact ⟨by omega, Nat.pow_pos (by omega), by omega⟩
theorem split_any (n : Nat) (w : World) (h2 : 2 ≤ n) (hn : n ≤ 1099511627776) :
    Calls Try.prog 109 #[.int .i64 (n : Int)] w fun e w' => e = .returned (.int .i64 (splitN n : Int)) ∧ w' = w := by
  go_enter Try.func109, Try.ntmps109
  go_wp2_with fail
  go_loopw [3] (fun t wr => ∃ j k : Nat, Hid (k = 2 ^ j) ∧ k < n ∧ t = .int .i64 (k : Int) ∧ wr = w) (fun t _ => n - (intOf t).toNat)
  case atStart => exact ⟨0, 1, rfl, by omega, rfl, rfl⟩
  case round =>
    obtain ⟨j, k, hk, hlt, rfl, rfl⟩ := hrel
    have hk0 : 0 < k := by rw [hk.out]; exact Nat.pow_pos (by omega)
    by_cases h : 2 * k < n
    · have i0 : 2 * (k : Int) < (n : Int) := by omega
      go_wp2_with fail
      go_roundw
      case rel => exact ⟨j + 1, 2 * k, by have := hk.out; show _ = _; rw [Nat.pow_succ]; omega, h, by go_num, trivial⟩
      case measure => simp [intOf]; omega
    · have i0 : ¬ (2 * (k : Int) < (n : Int)) := by omega
      have hs := splitN_of n j h2 (by rw [← hk.out]; exact hlt) (by rw [← hk.out]; omega)
      rw [← hk.out] at hs
      replace hs := Lib.hid hs
      go_wp2_with fail
      go_ret
      exact ⟨ret_int (by rw [hs.out]), rfl⟩
end Go.Proofs.Ytdfnandhdgbgeaa
namespace Go.Proofs.Ytdfnandhdgbgeaa
open Go.RowKit
set_option linter.unusedVariables false
set_option maxHeartbeats 4000000 in
set_option maxRecDepth 100000 in
theorem len64_any (x : Int) (w : World) (h0 : 0 ≤ x) (h1 : x < 65536) :
    Calls Try.prog 123 #[.int .u64 x] w fun e w' => e = .returned (.int .i64 (Lib.bitLen x.toNat)) ∧ w' = w := by
  have t9 : Try.prog.underlying 9 = some .string := Try.underlying9
  by_cases hx : x < 256
  · have hix : ∀ W, (Instr.index 9 (.string Lib.len8tab) (.int .u8 x)).run Try.prog W = .ok (.int .u8 (Lib.len8 x)) W := fun W => Lib.run_index_len8tab W _ _ _ t9 h0 (by omega)
    go_enter Try.func123, Try.ntmps123
    go_wp2
    go_ret
    refine ⟨congrArg Ending.returned (congrArg (Value.int IntKind.i64) ?_), rfl⟩
    have l := Lib.bitLen_le8' x h0 (by omega)
    rw [Lib.len8_of x h0 (by omega)]
    unfold wrap64; omega
  · have hix : ∀ W, (Instr.index 9 (.string Lib.len8tab) (.int .u8 (x / 256))).run Try.prog W = .ok (.int .u8 (Lib.len8 (x / 256))) W := fun W => Lib.run_index_len8tab W _ _ _ t9 (by omega) (by omega)
    go_enter Try.func123, Try.ntmps123
    go_wp2
    go_ret
    refine ⟨congrArg Ending.returned (congrArg (Value.int IntKind.i64) ?_), rfl⟩
    have l := Lib.bitLen_le8' (x / 256) (by omega) (by omega)
    have s := Lib.bitLen_shift8 x.toNat (by omega) (by omega)
    rw [Lib.len8_of (x / 256) (by omega) (by omega), s, show x.toNat / 256 = (x / 256).toNat by omega]
    unfold wrap64; omega
theorem len_any (x : Int) (w : World) (h0 : 0 ≤ x) (h1 : x < 65536) :
    Calls Try.prog 117 #[.int .u64 x] w fun e w' => e = .returned (.int .i64 (Lib.bitLen x.toNat)) ∧ w' = w := by
  go_enter Try.func117, Try.ntmps117
  go_wp2_with (go_at_call 123; refine (len64_any x _ h0 h1).mono ?_; rintro e w' ⟨rfl, rfl⟩)
  go_ret
  exact ⟨rfl, rfl⟩
theorem bitLen_log (x : Nat) (h : 1 ≤ x) (hx : x < 2 ^ 64) : Lib.bitLen x = x.log2 + 1 := by
  induction x using Nat.strongRecOn with
  | ind x ih =>
    rw [Lib.bitLen_half x (by omega) hx, Nat.log2_def]
    by_cases h2 : 2 ≤ x
    · rw [if_pos h2, ih (x / 2) (by omega) (by omega) (by omega)]; omega
    · have : x = 1 := by omega
      subst this
      decide
theorem half_any (n : Nat) (w : World) (h2 : 2 ≤ n) (hn : n ≤ 1024) :
    Calls Try.prog 106 #[.int .i64 (n : Int)] w fun e w' => e = .returned (.int .i64 (splitN n : Int)) ∧ w' = w := by
  have e0 : IntKind.i64.wrap ((n : Int) - 1) = ((n - 1 : Nat) : Int) := by rw [IntKind.wrap_i64]; omega
  have e1 : IntKind.u64.wrap (((n - 1 : Nat) : Int)) = ((n - 1 : Nat) : Int) := by rw [IntKind.wrap_u64]; omega
  have hl := Lib.hid (len_any ((n - 1 : Nat) : Int) w (by omega) (by omega))
  have hlog := Lib.hid (bitLen_log (n - 1) (by omega) (by omega))
  go_enter Try.func106, Try.ntmps106
  go_wp2_with fail
  refine hl.out.mono ?_
  rintro e w' ⟨rfl, rfl⟩
  rw [Int.toNat_natCast, hlog.out]
  have hk : (n - 1).log2 ≤ 9 := by
    have := (Nat.log2_eq_iff (n := n - 1) (k := (n - 1).log2) (by omega)).1 rfl
    rcases Nat.lt_or_ge 9 (n - 1).log2 with h | h
    · have h3 : 2 ^ 10 ≤ 2 ^ (n - 1).log2 := Nat.pow_le_pow_right (by omega) h
      omega
    · exact h
  have hs : Hid (splitN n = 2 ^ (n - 1).log2) := rfl
  generalize (n - 1).log2 = k at hk hs
  have k0 : IntKind.i64.wrap (((k + 1 : Nat) : Int) - 1) = (k : Int) := by rw [IntKind.wrap_i64]; omega
  dsimp only
  rcases (by omega : k = 0 ∨ k = 1 ∨ k = 2 ∨ k = 3 ∨ k = 4 ∨ k = 5 ∨ k = 6 ∨ k = 7 ∨ k = 8 ∨ k = 9) with rfl | rfl | rfl | rfl | rfl | rfl | rfl | rfl | rfl | rfl
  all_goals
    go_wp2_with fail
    go_ret
    exact ⟨ret_int (by rw [hs.out]; decide), rfl⟩
end Go.Proofs.Ytdfnandhdgbgeaa
namespace Go.Proofs.Ytdfnandhdgbgeaa
open Go.RowKit
set_option linter.unusedVariables false
attribute [local go_sem ↓] Go.wp_at_zero Go.wp_at_succ
/-- The root of the tree over hashes. -/
def rootG (hs : List Bs) : Bs :=
  if h : 2 ≤ hs.length then nodeH (rootG (hs.take (splitN hs.length))) (rootG (hs.drop (splitN hs.length)))
  else match hs with
    | [] => sha []
    | x :: _ => x
termination_by hs.length
decreasing_by
  · have := splitN_lt hs.length h; rw [List.length_take]; omega
  · have := splitN_lt hs.length h; rw [List.length_drop]; omega
theorem rootG_two (hs : List Bs) (h : 2 ≤ hs.length) : rootG hs = nodeH (rootG (hs.take (splitN hs.length))) (rootG (hs.drop (splitN hs.length))) := by
  rw [rootG, dif_pos h]
theorem rootG_nil : rootG [] = sha [] := by rw [rootG]; rfl
theorem rootG_one (x : Bs) : rootG [x] = x := by rw [rootG]; rfl
theorem SeesL.cut {w : World} {B : Nat} {A : Option Addr} {n c a b : Nat} {ls : List Bs} (h : SeesL w B (.slice A n c) ls) (hab : a ≤ b) (hb : b ≤ ls.length) :
    SeesL w B (.slice (cutA A c a 1) (b - a) (c - a)) ((ls.drop a).take (b - a)) := by
  obtain ⟨vs, hs, hv⟩ := h
  have hn : n = ls.length := by
    obtain ⟨_, A', c', e, _⟩ := hs
    injection e
  subst hn
  have h1 := Sees.cut (l := a) (h' := b) hs hab hb
  rw [Nat.mul_one, Nat.mul_one] at h1
  have hl : ((ls.drop a).take (b - a)).length = b - a := by rw [List.length_take, List.length_drop]; omega
  refine ⟨(vs.drop a).take (b - a), by rw [hl]; exact h1, fun k hk => ?_⟩
  rw [hl] at hk
  obtain ⟨v, h2, h3⟩ := hv (a + k) (by omega)
  refine ⟨v, by rw [List.getElem?_take, if_pos hk, List.getElem?_drop]; exact h2, ?_⟩
  rw [List.getD_eq_getElem?_getD, List.getElem?_take, if_pos hk, List.getElem?_drop, ← List.getD_eq_getElem?_getD]
  exact h3
end Go.Proofs.Ytdfnandhdgbgeaa
namespace Go.Proofs.Ytdfnandhdgbgeaa
open Go.RowKit
set_option linter.unusedVariables false
attribute [local go_sem ↓] Go.wp_at_zero Go.wp_at_succ
theorem cutA_zero (b o c s : Nat) : cutA (some ⟨b, o, none⟩) c 0 s = some ⟨b, o, none⟩ := by
  unfold cutA
  split
  · rfl
  · rw [Option.map_some, Nat.zero_mul, add_zero', Nat.add_zero]
theorem nodeH_len (a b : Bs) : (nodeH a b).length = 32 := sha_len _
theorem rootG_len (hs : List Bs) (h : ∀ x ∈ hs, x.length = 32) : (rootG hs).length = 32 := by
  by_cases h2 : 2 ≤ hs.length
  · rw [rootG_two hs h2]; exact nodeH_len _ _
  · match hs, h with
    | [], _ => rw [rootG_nil]; exact sha_len _
    | [x], h => rw [rootG_one]; exact h x (by simp)
    | _ :: _ :: _, _ => simp at h2
theorem leafs_len (ls : List Bs) : ∀ x ∈ ls.map leafH, x.length = 32 := by
  intro x hx
  obtain ⟨y, _, rfl⟩ := List.mem_map.1 hx
  exact sha_len _
end Go.Proofs.Ytdfnandhdgbgeaa
namespace Go.Proofs.Ytdfnandhdgbgeaa
open Go.RowKit
set_option linter.unusedVariables false
attribute [local go_sem ↓] Go.wp_at_zero Go.wp_at_succ
def RootPost (ls : List Bs) (w : World) (e : Ending) (w' : World) : Prop :=
  ∃ v, e = .returned (.tuple #[v, .int .i64 0]) ∧ OwnB w' w.heap.size v (rootG (ls.map leafH)) ∧ Below w.heap.size w w'
theorem hashes_size (w : World) : (sizeOf 22).run Try.prog w = .ok 1 w := slice_size w
def DividePost (A : Option Addr) (n c : Nat) (w : World) (e : Ending) (w' : World) : Prop :=
  e = .returned (.tuple #[.slice A (splitN n) c, .slice (cutA A c (splitN n) 1) (n - splitN n) (c - splitN n)]) ∧ ∃ k, w' = w.drewN k
end Go.Proofs.Ytdfnandhdgbgeaa
namespace Go.Proofs.Ytdfnandhdgbgeaa
open Go.RowKit
set_option linter.unusedVariables false
attribute [local go_sem ↓] Go.wp_at_zero Go.wp_at_succ
end Go.Proofs.Ytdfnandhdgbgeaa
namespace Go.Proofs.Ytdfnandhdgbgeaa
open Go.RowKit
set_option linter.unusedVariables false
attribute [local go_sem ↓] Go.wp_at_zero Go.wp_at_succ
def ShowsL (ls : List Bs) (w : World) (e : Ending) (w' : World) : Prop := ∃ v, e = .returned v ∧ SeesL w' w'.heap.size v ls ∧ Below w.heap.size w w'
end Go.Proofs.Ytdfnandhdgbgeaa
namespace Go.Proofs.Ytdfnandhdgbgeaa
open Go.RowKit
set_option linter.unusedVariables false
attribute [local go_sem ↓] Go.wp_at_zero Go.wp_at_succ
end Go.Proofs.Ytdfnandhdgbgeaa

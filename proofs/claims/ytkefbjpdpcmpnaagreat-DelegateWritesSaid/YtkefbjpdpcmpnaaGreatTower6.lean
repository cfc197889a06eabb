/- Contracts of tree.Leaf, Node and of their reference: the hash of a leaf, and of two hashes. Conditions: at most 2^30 bytes of each. Contract of sectimeref07.split: the greatest power of two below a number. Conditions: the number is at least 2 and at most 2^40. Contracts of math/bits.Len at small numbers, and of tree.half. Conditions: those of each theorem. Contract of sectimeref07.root: the root of a hash tree. Conditions: at most 1024 leaves of at most 2^20 bytes. Contract of sectimeref07.root: the root of a hash tree. Conditions: at most 1024 leaves of at most 2^20 bytes. Contracts of sectimeref07.Root and of tree.divide. Conditions: those of each theorem. Contract of (tree.hashes).root: the root of the tree over hashes. Conditions: at most 1024 of 32 bytes. Contract of tree.of: the hashes of leaves, in a row of the call's own. Conditions: at most 1024 leaves of at most 2^20 bytes. Contract of tree.Root. Conditions: at most 1024 leaves of at most 2^20 bytes. -/
import Derived.Test.YtkefbjpdpcmpnaaGreatTower5
import Derived.Lib.Strings
import Derived.Lib.Slices
import Derived.Lib.Small
import Derived.Lib.Walk
import Derived.Lib.BitFns
namespace Go.Proofs.YtkefbjpdpcmpnaaGreat
open Go.RowKit
set_option linter.unusedVariables false
attribute [local go_sem ↓] Go.wp_at_zero Go.wp_at_succ
def leafH (l : Bs) : Bs := sha (0 :: l)
def nodeH (a b : Bs) : Bs := sha (1 :: (a ++ b))
set_option maxRecDepth 100000 in
theorem leaf_any (B : Nat) (u : Value) (l : Bs) (w : World) (hu : SeesB w B u l) (hB : B ≤ w.heap.size) (hl : l.length ≤ 1073741824) :
    Calls Tryz.prog 192 #[u] w (Gives (leafH l) w) := by
  obtain ⟨A, c, rfl, hc1, hc2⟩ := hu.mk_
  replace hu := Lib.hid hu
  go_enter Tryz.func192, Tryz.ntmps192
  go_wp2_with fail
  have hb2 := balloc w (.cells #[.int .u8 0] 5)
  have h2 := one_byte w 0 0 rfl
  have hu2 := hu.out.below (hb2.mono hB)
  have hsz1 : (w.alloc (.cells #[.int .u8 0] 5)).heap.size = w.heap.size + 1 := World.size_alloc _ _
  rw [← hsz1]
  have hall := hb2
  generalize w.alloc (.cells #[.int .u8 0] 5) = w2 at *
  generalize hg1 : w.heap.size = g1 at hu2 h2 hall ⊢
  have hl3 := seesL_lit w2 23 (show SeesAll w2 w2.heap.size [.slice (some ⟨g1, 0, none⟩) 1 1, .slice A l.length c] [[0], l] from ⟨h2.sees, hu2.more (by have := hb2.size; omega), trivial⟩) (by simp [maxLen])
  have hfl : [[0], l].flatten = (0 : UInt8) :: l := by simp
  refine (join_any _ _ _ _ hl3 (Nat.le_refl _) (by rw [hfl]; simp; omega)).mono ?_
  rintro e w3 ⟨v3, rfl, h3, hb3⟩
  rw [hfl] at h3
  have hw3 := bgo (bgo hb2 (balloc w2 _)) hb3
  dsimp only
  go_wp2_with fail
  refine (sum_any _ _ _ _ h3.sees (Nat.le_refl _) (by simp; omega)).mono ?_
  rintro e w4 ⟨v4, rfl, h4, hb4⟩
  dsimp only
  go_wp2_with fail
  go_ret
  exact ⟨v4, rfl, h4.mono (hw3.size), bgo hw3 hb4⟩
set_option maxRecDepth 100000 in
theorem node_any (B : Nat) (u u2 : Value) (l l2 : Bs) (w : World) (hu : SeesB w B u l) (huu : SeesB w B u2 l2) (hB : B ≤ w.heap.size) (hl : l.length ≤ 1073741824) (hll : l2.length ≤ 1073741824) :
    Calls Tryz.prog 217 #[u, u2] w (Gives (nodeH l l2) w) := by
  obtain ⟨A, c, rfl, hc1, hc2⟩ := hu.mk_
  obtain ⟨AA, cc, rfl, hc3, hc4⟩ := huu.mk_
  replace hu := Lib.hid hu
  replace huu := Lib.hid huu
  go_enter Tryz.func217, Tryz.ntmps217
  go_wp2_with fail
  have hb2 := balloc w (.cells #[.int .u8 1] 5)
  have h2 := one_byte w 1 1 rfl
  have hu2 := hu.out.below (hb2.mono hB)
  have hu3 := huu.out.below (hb2.mono hB)
  have hsz1 : (w.alloc (.cells #[.int .u8 1] 5)).heap.size = w.heap.size + 1 := World.size_alloc _ _
  rw [← hsz1]
  have hall := hb2
  generalize w.alloc (.cells #[.int .u8 1] 5) = w2 at *
  generalize hg1 : w.heap.size = g1 at hu2 hu3 h2 hall ⊢
  have hl3 := seesL_lit w2 23 (show SeesAll w2 w2.heap.size [.slice (some ⟨g1, 0, none⟩) 1 1, .slice A l.length c, .slice AA l2.length cc] [[1], l, l2] from ⟨h2.sees, hu2.more (by have := hb2.size; omega), hu3.more (by have := hb2.size; omega), trivial⟩) (by simp [maxLen])
  have hfl : [[1], l, l2].flatten = (1 : UInt8) :: (l ++ l2) := by simp
  refine (join_any _ _ _ _ hl3 (Nat.le_refl _) (by rw [hfl]; simp; omega)).mono ?_
  rintro e w3 ⟨v3, rfl, h3, hb3⟩
  rw [hfl] at h3
  have hw3 := bgo (bgo hb2 (balloc w2 _)) hb3
  dsimp only
  go_wp2_with fail
  refine (sum_any _ _ _ _ h3.sees (Nat.le_refl _) (by simp; omega)).mono ?_
  rintro e w4 ⟨v4, rfl, h4, hb4⟩
  dsimp only
  go_wp2_with fail
  go_ret
  exact ⟨v4, rfl, h4.mono (hw3.size), bgo hw3 hb4⟩
set_option maxRecDepth 100000 in
theorem rleaf_any (B : Nat) (u : Value) (l : Bs) (w : World) (hu : SeesB w B u l) (hB : B ≤ w.heap.size) (hl : l.length ≤ 1073741824) :
    Calls Tryz.prog 208 #[u] w (Gives (leafH l) w) := by
  obtain ⟨A, c, rfl, hc1, hc2⟩ := hu.mk_
  replace hu := Lib.hid hu
  go_enter Tryz.func208, Tryz.ntmps208
  go_wp2_with fail
  have hb2 := balloc w (.cells #[.int .u8 0] 5)
  have h2 := one_byte w 0 0 rfl
  have hu2 := hu.out.below (hb2.mono hB)
  have hsz1 : (w.alloc (.cells #[.int .u8 0] 5)).heap.size = w.heap.size + 1 := World.size_alloc _ _
  rw [← hsz1]
  have hall := hb2
  generalize w.alloc (.cells #[.int .u8 0] 5) = w2 at *
  generalize hg1 : w.heap.size = g1 at hu2 h2 hall ⊢
  have hl3 := seesL_lit w2 23 (show SeesAll w2 w2.heap.size [.slice (some ⟨g1, 0, none⟩) 1 1, .slice A l.length c] [[0], l] from ⟨h2.sees, hu2.more (by have := hb2.size; omega), trivial⟩) (by simp [maxLen])
  have hfl : [[0], l].flatten = (0 : UInt8) :: l := by simp
  refine (rjoin_any _ _ _ _ hl3 (Nat.le_refl _) (by rw [hfl]; simp; omega)).mono ?_
  rintro e w3 ⟨v3, rfl, h3, hb3⟩
  rw [hfl] at h3
  have hw3 := bgo (bgo hb2 (balloc w2 _)) hb3
  dsimp only
  go_wp2_with fail
  refine (rsum_any _ _ _ _ h3.sees (Nat.le_refl _) (by simp; omega)).mono ?_
  rintro e w4 ⟨v4, rfl, h4, hb4⟩
  dsimp only
  go_wp2_with fail
  go_ret
  exact ⟨v4, rfl, h4.mono (hw3.size), bgo hw3 hb4⟩
set_option maxRecDepth 100000 in
theorem rnode_any (B : Nat) (u u2 : Value) (l l2 : Bs) (w : World) (hu : SeesB w B u l) (huu : SeesB w B u2 l2) (hB : B ≤ w.heap.size) (hl : l.length ≤ 1073741824) (hll : l2.length ≤ 1073741824) :
    Calls Tryz.prog 210 #[u, u2] w (Gives (nodeH l l2) w) := by
  obtain ⟨A, c, rfl, hc1, hc2⟩ := hu.mk_
  obtain ⟨AA, cc, rfl, hc3, hc4⟩ := huu.mk_
  replace hu := Lib.hid hu
  replace huu := Lib.hid huu
  go_enter Tryz.func210, Tryz.ntmps210
  go_wp2_with fail
  have hb2 := balloc w (.cells #[.int .u8 1] 5)
  have h2 := one_byte w 1 1 rfl
  have hu2 := hu.out.below (hb2.mono hB)
  have hu3 := huu.out.below (hb2.mono hB)
  have hsz1 : (w.alloc (.cells #[.int .u8 1] 5)).heap.size = w.heap.size + 1 := World.size_alloc _ _
  rw [← hsz1]
  have hall := hb2
  generalize w.alloc (.cells #[.int .u8 1] 5) = w2 at *
  generalize hg1 : w.heap.size = g1 at hu2 hu3 h2 hall ⊢
  have hl3 := seesL_lit w2 23 (show SeesAll w2 w2.heap.size [.slice (some ⟨g1, 0, none⟩) 1 1, .slice A l.length c, .slice AA l2.length cc] [[1], l, l2] from ⟨h2.sees, hu2.more (by have := hb2.size; omega), hu3.more (by have := hb2.size; omega), trivial⟩) (by simp [maxLen])
  have hfl : [[1], l, l2].flatten = (1 : UInt8) :: (l ++ l2) := by simp
  refine (rjoin_any _ _ _ _ hl3 (Nat.le_refl _) (by rw [hfl]; simp; omega)).mono ?_
  rintro e w3 ⟨v3, rfl, h3, hb3⟩
  rw [hfl] at h3
  have hw3 := bgo (bgo hb2 (balloc w2 _)) hb3
  dsimp only
  go_wp2_with fail
  refine (rsum_any _ _ _ _ h3.sees (Nat.le_refl _) (by simp; omega)).mono ?_
  rintro e w4 ⟨v4, rfl, h4, hb4⟩
  dsimp only
  go_wp2_with fail
  go_ret
  exact ⟨v4, rfl, h4.mono (hw3.size), bgo hw3 hb4⟩
end Go.Proofs.YtkefbjpdpcmpnaaGreat
namespace Go.Proofs.YtkefbjpdpcmpnaaGreat
open Go.RowKit
set_option linter.unusedVariables false
attribute [local go_sem ↓] Go.wp_at_zero Go.wp_at_succ
def splitN (n : Nat) : Nat := 2 ^ (n - 1).log2
theorem splitN_of (n j : Nat) (h2 : 2 ≤ n) (h0 : 2 ^ j < n) (h1 : n ≤ 2 * 2 ^ j) : splitN n = 2 ^ j := by
  unfold splitN
  have h := (Nat.log2_eq_iff (n := n - 1) (k := j) (by omega)).2 ⟨by omega, by rw [Nat.pow_succ]; omega⟩
  rw [h]
theorem splitN_lt (n : Nat) (h2 : 2 ≤ n) : splitN n < n ∧ 0 < splitN n ∧ n ≤ 2 * splitN n := by
  unfold splitN
  have h := (Nat.log2_eq_iff (n := n - 1) (k := (n - 1).log2) (by omega)).1 rfl
  rw [Nat.pow_succ] at h
  exact ⟨by omega, Nat.pow_pos (by omega), by omega⟩
theorem split_any (n : Nat) (w : World) (h2 : 2 ≤ n) (hn : n ≤ 1099511627776) :
    Calls Tryz.prog 209 #[.int .i64 (n : Int)] w fun e w' => e = .returned (.int .i64 (splitN n : Int)) ∧ w' = w := by
  go_enter Tryz.func209, Tryz.ntmps209
  go_wp2_with fail
  go_loopw [3] (fun t wr => ∃ j k : Nat, Hid (k = 2 ^ j) ∧ k < n ∧ t = .int .i64 (k : Int) ∧ wr = w) (fun t _ => n - (intOf t).toNat)
  case atStart => exact ⟨0, 1, rfl, by omega, rfl, rfl⟩
  case round =>
    obtain ⟨j, k, hk, hlt, rfl, rfl⟩ := hrel
    have hk0 : 0 < k := by rw [hk.out]; exact Nat.pow_pos (by omega)
    by_cases h : 2 * k < n
    · have i0 : 2 * (k : Int) < (n : Int) := by omega
      go_wp2_with fail
      go_roundw
      case rel => exact ⟨j + 1, 2 * k, by have := hk.out; show _ = _; rw [Nat.pow_succ]; omega, h, by go_num, trivial⟩
      case measure => simp [intOf]; omega
    · have i0 : ¬ (2 * (k : Int) < (n : Int)) := by omega
      have hs := splitN_of n j h2 (by rw [← hk.out]; exact hlt) (by rw [← hk.out]; omega)
      rw [← hk.out] at hs
      replace hs := Lib.hid hs
      go_wp2_with fail
      go_ret
      exact ⟨ret_int (by rw [hs.out]), rfl⟩
end Go.Proofs.YtkefbjpdpcmpnaaGreat
namespace Go.Proofs.YtkefbjpdpcmpnaaGreat
open Go.RowKit
set_option linter.unusedVariables false
set_option maxHeartbeats 4000000 in
set_option maxRecDepth 100000 in
theorem len64_any (x : Int) (w : World) (h0 : 0 ≤ x) (h1 : x < 65536) :
    Calls Tryz.prog 230 #[.int .u64 x] w fun e w' => e = .returned (.int .i64 (Lib.bitLen x.toNat)) ∧ w' = w := by
  have t9 : Tryz.prog.underlying 9 = some .string := Tryz.underlying9
  by_cases hx : x < 256
  · have hix : ∀ W, (Instr.index 9 (.string Lib.len8tab) (.int .u8 x)).run Tryz.prog W = .ok (.int .u8 (Lib.len8 x)) W := fun W => Lib.run_index_len8tab W _ _ _ t9 h0 (by omega)
    go_enter Tryz.func230, Tryz.ntmps230
    go_wp2
    go_ret
    refine ⟨congrArg Ending.returned (congrArg (Value.int IntKind.i64) ?_), rfl⟩
    have l := Lib.bitLen_le8' x h0 (by omega)
    rw [Lib.len8_of x h0 (by omega)]
    unfold wrap64; omega
  · have hix : ∀ W, (Instr.index 9 (.string Lib.len8tab) (.int .u8 (x / 256))).run Tryz.prog W = .ok (.int .u8 (Lib.len8 (x / 256))) W := fun W => Lib.run_index_len8tab W _ _ _ t9 (by omega) (by omega)
    go_enter Tryz.func230, Tryz.ntmps230
    go_wp2
    go_ret
    refine ⟨congrArg Ending.returned (congrArg (Value.int IntKind.i64) ?_), rfl⟩
    have l := Lib.bitLen_le8' (x / 256) (by omega) (by omega)
    have s := Lib.bitLen_shift8 x.toNat (by omega) (by omega)
    rw [Lib.len8_of (x / 256) (by omega) (by omega), s, show x.toNat / 256 = (x / 256).toNat by omega]
    unfold wrap64; omega
theorem len_any (x : Int) (w : World) (h0 : 0 ≤ x) (h1 : x < 65536) :
    Calls Tryz.prog 225 #[.int .u64 x] w fun e w' => e = .returned (.int .i64 (Lib.bitLen x.toNat)) ∧ w' = w := by
  go_enter Tryz.func225, Tryz.ntmps225
  go_wp2_with (go_at_call 230; refine (len64_any x _ h0 h1).mono ?_; rintro e w' ⟨rfl, rfl⟩)
  go_ret
  exact ⟨rfl, rfl⟩
theorem bitLen_log (x : Nat) (h : 1 ≤ x) (hx : x < 2 ^ 64) : Lib.bitLen x = x.log2 + 1 := by
  induction x using Nat.strongRecOn with
  | ind x ih =>
    rw [Lib.bitLen_half x (by omega) hx, Nat.log2_def]
    by_cases h2 : 2 ≤ x
    · rw [if_pos h2, ih (x / 2) (by omega) (by omega) (by omega)]; omega
    · have : x = 1 := by omega
      subst this
      decide
theorem half_any (n : Nat) (w : World) (h2 : 2 ≤ n) (hn : n ≤ 1024) :
    Calls Tryz.prog 216 #[.int .i64 (n : Int)] w fun e w' => e = .returned (.int .i64 (splitN n : Int)) ∧ w' = w := by
  have e0 : IntKind.i64.wrap ((n : Int) - 1) = ((n - 1 : Nat) : Int) := by rw [IntKind.wrap_i64]; omega
  have e1 : IntKind.u64.wrap (((n - 1 : Nat) : Int)) = ((n - 1 : Nat) : Int) := by rw [IntKind.wrap_u64]; omega
  have hl := Lib.hid (len_any ((n - 1 : Nat) : Int) w (by omega) (by omega))
  have hlog := Lib.hid (bitLen_log (n - 1) (by omega) (by omega))
  go_enter Tryz.func216, Tryz.ntmps216
  go_wp2_with fail
  refine hl.out.mono ?_
  rintro e w' ⟨rfl, rfl⟩
  rw [Int.toNat_natCast, hlog.out]
  have hk : (n - 1).log2 ≤ 9 := by
    have := (Nat.log2_eq_iff (n := n - 1) (k := (n - 1).log2) (by omega)).1 rfl
    rcases Nat.lt_or_ge 9 (n - 1).log2 with h | h
    · have h3 : 2 ^ 10 ≤ 2 ^ (n - 1).log2 := Nat.pow_le_pow_right (by omega) h
      omega
    · exact h
  have hs : Hid (splitN n = 2 ^ (n - 1).log2) := rfl
  generalize (n - 1).log2 = k at hk hs
  have k0 : IntKind.i64.wrap (((k + 1 : Nat) : Int) - 1) = (k : Int) := by rw [IntKind.wrap_i64]; omega
  dsimp only
  rcases (by omega : k = 0 ∨ k = 1 ∨ k = 2 ∨ k = 3 ∨ k = 4 ∨ k = 5 ∨ k = 6 ∨ k = 7 ∨ k = 8 ∨ k = 9) with rfl | rfl | rfl | rfl | rfl | rfl | rfl | rfl | rfl | rfl
  all_goals
    go_wp2_with fail
    go_ret
    exact ⟨ret_int (by rw [hs.out]; decide), rfl⟩
end Go.Proofs.YtkefbjpdpcmpnaaGreat
namespace Go.Proofs.YtkefbjpdpcmpnaaGreat
open Go.RowKit
set_option linter.unusedVariables false
attribute [local go_sem ↓] Go.wp_at_zero Go.wp_at_succ
/-- The root of the tree over hashes. -/
def rootG (hs : List Bs) : Bs :=
  if h : 2 ≤ hs.length then nodeH (rootG (hs.take (splitN hs.length))) (rootG (hs.drop (splitN hs.length)))
  else match hs with
    | [] => sha []
    | x :: _ => x
termination_by hs.length
decreasing_by
  · have := splitN_lt hs.length h; rw [List.length_take]; omega
  · have := splitN_lt hs.length h; rw [List.length_drop]; omega
theorem rootG_two (hs : List Bs) (h : 2 ≤ hs.length) : rootG hs = nodeH (rootG (hs.take (splitN hs.length))) (rootG (hs.drop (splitN hs.length))) := by
  rw [rootG, dif_pos h]
theorem rootG_nil : rootG [] = sha [] := by rw [rootG]; rfl
theorem rootG_one (x : Bs) : rootG [x] = x := by rw [rootG]; rfl
theorem SeesL.cut {w : World} {B : Nat} {A : Option Addr} {n c a b : Nat} {ls : List Bs} (h : SeesL w B (.slice A n c) ls) (hab : a ≤ b) (hb : b ≤ ls.length) :
    SeesL w B (.slice (cutA A c a 1) (b - a) (c - a)) ((ls.drop a).take (b - a)) := by
  obtain ⟨vs, hs, hv⟩ := h
  have hn : n = ls.length := by
    obtain ⟨_, A', c', e, _⟩ := hs
    injection e
  subst hn
  have h1 := Sees.cut (l := a) (h' := b) hs hab hb
  rw [Nat.mul_one, Nat.mul_one] at h1
  have hl : ((ls.drop a).take (b - a)).length = b - a := by rw [List.length_take, List.length_drop]; omega
  refine ⟨(vs.drop a).take (b - a), by rw [hl]; exact h1, fun k hk => ?_⟩
  rw [hl] at hk
  obtain ⟨v, h2, h3⟩ := hv (a + k) (by omega)
  refine ⟨v, by rw [List.getElem?_take, if_pos hk, List.getElem?_drop]; exact h2, ?_⟩
  rw [List.getD_eq_getElem?_getD, List.getElem?_take, if_pos hk, List.getElem?_drop, ← List.getD_eq_getElem?_getD]
  exact h3
end Go.Proofs.YtkefbjpdpcmpnaaGreat
namespace Go.Proofs.YtkefbjpdpcmpnaaGreat
open Go.RowKit
set_option linter.unusedVariables false
attribute [local go_sem ↓] Go.wp_at_zero Go.wp_at_succ
theorem cutA_zero (b o c s : Nat) : cutA (some ⟨b, o, none⟩) c 0 s = some ⟨b, o, none⟩ := by
  unfold cutA
  split
  · rfl
  · rw [Option.map_some, Nat.zero_mul, add_zero', Nat.add_zero]
theorem nodeH_len (a b : Bs) : (nodeH a b).length = 32 := sha_len _
theorem rootG_len (hs : List Bs) (h : ∀ x ∈ hs, x.length = 32) : (rootG hs).length = 32 := by
  by_cases h2 : 2 ≤ hs.length
  · rw [rootG_two hs h2]; exact nodeH_len _ _
  · match hs, h with
    | [], _ => rw [rootG_nil]; exact sha_len _
    | [x], h => rw [rootG_one]; exact h x (by simp)
    | _ :: _ :: _, _ => simp at h2
theorem leafs_len (ls : List Bs) : ∀ x ∈ ls.map leafH, x.length = 32 := by
  intro x hx
  obtain ⟨y, _, rfl⟩ := List.mem_map.1 hx
  exact sha_len _
set_option maxRecDepth 100000 in
theorem rroot_any (m : Nat) : ∀ (ls : List Bs) (B : Nat) (u : Value) (w : World), ls.length ≤ m → SeesL w B u ls → B ≤ w.heap.size → ls.length ≤ 1024 → (∀ l ∈ ls, l.length ≤ 1048576) →
    Calls Tryz.prog 171 #[u] w (Gives (rootG (ls.map leafH)) w) := by
  induction m with
  | zero =>
    intro ls B u w hm hu hB hn hl
    obtain rfl : ls = [] := List.eq_nil_of_length_eq_zero (by omega)
    obtain ⟨A, c, rfl, hc1, hc2⟩ := hu.mk_
    have hs := Lib.hid (rsum_any B (.slice none 0 0) [] w (SeesB.nil _ _) hB (by simp))
    go_enter Tryz.func171, Tryz.ntmps171
    go_wp2_with fail
    refine hs.out.mono ?_
    rintro e w1 ⟨v, rfl, h1, hb1⟩
    dsimp only
    go_wp2_with fail
    go_ret
    exact ⟨v, rfl, by rw [List.map_nil, rootG_nil]; exact h1, hb1⟩
  | succ m ih =>
    intro ls B u w hm hu hB hn hl
    by_cases h0 : ls.length ≤ m
    · exact ih ls B u w h0 hu hB hn hl
    · have hlen : ls.length = m + 1 := by omega
      by_cases hm0 : m = 0
      · subst hm0
        obtain ⟨A, c, rfl, hc1, hc2⟩ := hu.mk_
        match ls, hlen, hu, hl with
        | [x], _, hu, hl =>
          obtain ⟨b, o, rfl, hb, hcell⟩ := hu.at_ (by simp)
          obtain ⟨A', c', x0, g1, g2, hsee⟩ := hcell 0 (by simp)
          rw [Nat.add_zero] at x0
          have hs := Lib.hid (rleaf_any B _ _ w hsee hB (by have := hl x (by simp); simp; omega))
          clear hcell hsee hu ih
          simp only [List.getD_cons_zero, List.length_cons, List.length_nil] at *
          go_enter Tryz.func171, Tryz.ntmps171
          go_wp2_with fail
          refine hs.out.mono ?_
          rintro e w1 ⟨v, rfl, h1, hb1⟩
          dsimp only
          go_wp2_with fail
          go_ret
          exact ⟨v, rfl, by rw [List.map_cons, List.map_nil, rootG_one]; exact h1, hb1⟩
      · obtain ⟨A, c, rfl, hc1, hc2⟩ := hu.mk_
        have h2 : 2 ≤ ls.length := by omega
        obtain ⟨k1, k2, k3⟩ := splitN_lt ls.length h2
        have hsp := Lib.hid (split_any ls.length w h2 (by omega))
        have hroot : Hid (rootG (ls.map leafH) = nodeH (rootG ((ls.take (splitN ls.length)).map leafH)) (rootG ((ls.drop (splitN ls.length)).map leafH))) := by
          show _ = _
          rw [rootG_two _ (by rw [List.length_map]; exact h2), List.length_map, List.map_take, List.map_drop]
        generalize splitN ls.length = k at *
        obtain ⟨b, o, rfl, hbB, -⟩ := hu.at_ (by omega)
        have c1 := SeesL.cut (a := 0) (b := k) hu (by omega) (by omega)
        have c2 := SeesL.cut (a := k) (b := ls.length) hu (by omega) (Nat.le_refl _)
        rw [cutA_zero, Nat.sub_zero, Nat.sub_zero, List.drop_zero] at c1
        rw [List.take_of_length_le (by rw [List.length_drop]; omega)] at c2
        have r2 := run_cut_from (P := Tryz.prog) 22 Tryz.underlying22 1 slice_size (some ⟨b, o, none⟩) ls.length c .i64 (k : Int) (by omega) (by omega)
        rw [Int.toNat_natCast] at r2
        generalize cutA (some ⟨b, o, none⟩) c k 1 = A2 at r2 c2
        have i1 := fun W h => ih (ls.take k) B _ W (by rw [List.length_take]; omega) (SeesL.below c1 (w' := W) h)
        have l1 : ∀ x ∈ ls.take k, x.length ≤ 1048576 := fun x hx => hl x (List.mem_of_mem_take hx)
        have l2 : ∀ x ∈ ls.drop k, x.length ≤ 1048576 := fun x hx => hl x (List.mem_of_mem_drop hx)
        have n1 : (ls.take k).length ≤ m := by rw [List.length_take]; omega
        have n2 : (ls.drop k).length ≤ m := by rw [List.length_drop]; omega
        have g1 := Lib.hid (ih (ls.take k) B _ w.drew n1 (SeesL.below c1 (Below.refl B w).drew) hB (by omega) l1)
        have g2 := Lib.hid (fun (W : World) (hbW : Below w.heap.size w W) => ih (ls.drop k) B _ W n2 (SeesL.below c2 (hbW.mono hB)) (Nat.le_trans hB hbW.size) (by omega) l2)
        have j0 : (0 : Int) ≤ (k : Int) := by omega
        have j1 : (k : Int) ≤ (c : Int) := by omega
        have j2 : (k : Int) ≤ (ls.length : Int) := by omega
        have j3 : ¬ ((ls.length : Int) = 0) := by omega
        have j4 : ¬ ((ls.length : Int) = 1) := by omega
        have hlm : Hid (ls.length = m + 1) := hlen
        clear ih i1 c1 c2 hu hlen
        go_enter Tryz.func171, Tryz.ntmps171
        go_wp2_with fail
        refine hsp.out.mono ?_
        rintro e w0 ⟨rfl, rfl⟩
        dsimp only
        go_wp2_with fail
        go_region_held3 (fun W' : World => True) (trivial)
          (first
            | (go_at_call 210; refine (rnode_any w2.heap.size _ _ _ _ w2 (h1.below hb2).sees h2'.sees (Nat.le_refl _) (by rw [rootG_len _ (leafs_len _)]; omega) (by rw [rootG_len _ (leafs_len _)]; omega)).mono ?_; rintro e w3 ⟨v3, rfl, h3, hb3⟩)
            | (go_at_call 171; have _h := hb1; clear _h; refine (g2.out _ (bgo (bdrew _) hb1)).mono ?_; rintro e w2 ⟨v2, rfl, h2', hb2⟩)
            | (go_at_call 171; refine g1.out.mono ?_; rintro e w1 ⟨v1, rfl, h1, hb1⟩))
        all_goals
          go_wp2_with fail
          go_ret
          exact ⟨v3, rfl, by rw [hroot.out]; exact h3.mono (bgo (bgo (bdrew _) hb1) hb2).size, bgo (bgo (bgo (bdrew _) hb1) hb2) hb3⟩
end Go.Proofs.YtkefbjpdpcmpnaaGreat
namespace Go.Proofs.YtkefbjpdpcmpnaaGreat
open Go.RowKit
set_option linter.unusedVariables false
attribute [local go_sem ↓] Go.wp_at_zero Go.wp_at_succ
def RootPost (ls : List Bs) (w : World) (e : Ending) (w' : World) : Prop :=
  ∃ v, e = .returned (.tuple #[v, .int .i64 0]) ∧ OwnB w' w.heap.size v (rootG (ls.map leafH)) ∧ Below w.heap.size w w'
theorem rroot_top (ls : List Bs) (B : Nat) (u : Value) (w : World) (hu : SeesL w B u ls) (hB : B ≤ w.heap.size) (hn : ls.length ≤ 1024) (hl : ∀ l ∈ ls, l.length ≤ 1048576) :
    Calls Tryz.prog 109 #[u] w (RootPost ls w) := by
  have hs := Lib.hid (rroot_any _ ls B u w (Nat.le_refl _) hu hB hn hl)
  obtain ⟨A, c, rfl, hc1, hc2⟩ := hu.mk_
  have j0 : ¬ ((1024 : Int) < (ls.length : Int)) := by omega
  clear hu hl
  go_enter Tryz.func109, Tryz.ntmps109
  go_wp2_with fail
  refine hs.out.mono ?_
  rintro e w1 ⟨v, rfl, h1, hb1⟩
  dsimp only
  go_wp2_with fail
  go_returns
  exact ⟨v, rfl, h1, hb1⟩
theorem hashes_size (w : World) : (sizeOf 23).run Tryz.prog w = .ok 1 w := slice_size w
def DividePost (A : Option Addr) (n c : Nat) (w : World) (e : Ending) (w' : World) : Prop :=
  e = .returned (.tuple #[.slice A (splitN n) c, .slice (cutA A c (splitN n) 1) (n - splitN n) (c - splitN n)]) ∧ ∃ k, w' = w.drewN k
set_option maxRecDepth 100000 in
theorem divide_any (A : Option Addr) (n c : Nat) (w : World) (h2 : 2 ≤ n) (hn : n ≤ 1024) (hc : n ≤ c) (hm : c ≤ maxLen) :
    Calls Tryz.prog 207 #[.slice A n c] w (DividePost A n c w) := by
  obtain ⟨k1, k2, k3⟩ := splitN_lt n h2
  have hh := Lib.hid (half_any n w h2 hn)
  unfold DividePost
  generalize splitN n = k at *
  have r2 := run_cut_from (P := Tryz.prog) 192 Tryz.underlying192 1 hashes_size A n c .i64 (k : Int) (by omega) (by omega)
  rw [Int.toNat_natCast] at r2
  generalize cutA A c k 1 = A2 at r2 ⊢
  have j0 : (0 : Int) ≤ (k : Int) := by omega
  have j1 : (k : Int) ≤ (c : Int) := by omega
  have j2 : (k : Int) ≤ (n : Int) := by omega
  go_enter Tryz.func207, Tryz.ntmps207
  go_wp2_with fail
  refine hh.out.mono ?_
  rintro e w0 ⟨rfl, rfl⟩
  dsimp only
  go_wp2_with fail
  go_quiet (fail)
  go_wp2_with fail
  go_returns
  exact ⟨rfl, _, rfl⟩
end Go.Proofs.YtkefbjpdpcmpnaaGreat
namespace Go.Proofs.YtkefbjpdpcmpnaaGreat
open Go.RowKit
set_option linter.unusedVariables false
attribute [local go_sem ↓] Go.wp_at_zero Go.wp_at_succ
set_option maxRecDepth 100000 in
theorem root_any (m : Nat) : ∀ (ls : List Bs) (B : Nat) (u : Value) (w : World), ls.length ≤ m → SeesL w B u ls → B ≤ w.heap.size → ls.length ≤ 1024 → (∀ l ∈ ls, l.length = 32) →
    Calls Tryz.prog 200 #[u] w (Gives (rootG ls) w) := by
  induction m with
  | zero =>
    intro ls B u w hm hu hB hn hl
    obtain rfl : ls = [] := List.eq_nil_of_length_eq_zero (by omega)
    obtain ⟨A, c, rfl, hc1, hc2⟩ := hu.mk_
    have hs := Lib.hid (sum_any B (.slice none 0 0) [] w (SeesB.nil _ _) hB (by simp))
    go_enter Tryz.func200, Tryz.ntmps200
    go_wp2_with fail
    refine hs.out.mono ?_
    rintro e w1 ⟨v, rfl, h1, hb1⟩
    dsimp only
    go_wp2_with fail
    go_ret
    exact ⟨v, rfl, by rw [rootG_nil]; exact h1, hb1⟩
  | succ m ih =>
    intro ls B u w hm hu hB hn hl
    by_cases h0 : ls.length ≤ m
    · exact ih ls B u w h0 hu hB hn hl
    · have hlen : ls.length = m + 1 := by omega
      by_cases hm0 : m = 0
      · subst hm0
        obtain ⟨A, c, rfl, hc1, hc2⟩ := hu.mk_
        match ls, hlen, hu, hl with
        | [x], _, hu, hl =>
          obtain ⟨b, o, rfl, hb, hcell⟩ := hu.at_ (by simp)
          obtain ⟨A', c', x0, g1, g2, hsee⟩ := hcell 0 (by simp)
          rw [Nat.add_zero] at x0
          have hs := Lib.hid (clone_any B _ _ w hsee hB (by have := hl x (by simp); simp; omega))
          clear hcell hsee hu ih hl
          simp only [List.getD_cons_zero, List.length_cons, List.length_nil] at *
          go_enter Tryz.func200, Tryz.ntmps200
          go_wp2_with fail
          refine hs.out.mono ?_
          rintro e w1 ⟨v, rfl, h1, hb1⟩
          dsimp only
          go_wp2_with fail
          go_ret
          exact ⟨v, rfl, by rw [rootG_one]; exact h1, hb1⟩
      · obtain ⟨A, c, rfl, hc1, hc2⟩ := hu.mk_
        have h2 : 2 ≤ ls.length := by omega
        obtain ⟨k1, k2, k3⟩ := splitN_lt ls.length h2
        have hdv := divide_any A ls.length c w h2 hn hc1 hc2
        unfold DividePost at hdv
        have hroot : Hid (rootG ls = nodeH (rootG (ls.take (splitN ls.length))) (rootG (ls.drop (splitN ls.length)))) := rootG_two ls h2
        generalize splitN ls.length = k at *
        obtain ⟨b, o, rfl, hbB, -⟩ := hu.at_ (by omega)
        have c1 := SeesL.cut (a := 0) (b := k) hu (by omega) (by omega)
        have c2 := SeesL.cut (a := k) (b := ls.length) hu (by omega) (Nat.le_refl _)
        rw [cutA_zero, Nat.sub_zero, Nat.sub_zero, List.drop_zero] at c1
        rw [List.take_of_length_le (by rw [List.length_drop]; omega)] at c2
        generalize cutA (some ⟨b, o, none⟩) c k 1 = A2 at hdv c2
        have l1 : ∀ x ∈ ls.take k, x.length = 32 := fun x hx => hl x (List.mem_of_mem_take hx)
        have l2 : ∀ x ∈ ls.drop k, x.length = 32 := fun x hx => hl x (List.mem_of_mem_drop hx)
        have n1 : (ls.take k).length ≤ m := by rw [List.length_take]; omega
        have n2 : (ls.drop k).length ≤ m := by rw [List.length_drop]; omega
        have g1 := Lib.hid (fun q => ih (ls.take k) B _ (w.drewN q) n1 (SeesL.below c1 (below_drewN (Below.refl B w) q)) hB (by omega) l1)
        have g2 := Lib.hid (fun (W : World) (hbW : Below w.heap.size w W) => ih (ls.drop k) B _ W n2 (SeesL.below c2 (hbW.mono hB)) (Nat.le_trans hB hbW.size) (by omega) l2)
        have q1 := rootG_len _ l1
        have q2 := rootG_len _ l2
        have j3 : ¬ ((ls.length : Int) = 0) := by omega
        have j4 : ¬ ((ls.length : Int) = 1) := by omega
        have hlm : Hid (ls.length = m + 1) := hlen
        replace hdv := Lib.hid hdv
        clear ih c1 c2 hu hlen
        go_enter Tryz.func200, Tryz.ntmps200
        go_wp2_with fail
        refine hdv.out.mono ?_
        rintro e w0 ⟨rfl, q, rfl⟩
        dsimp only
        go_wp2_with fail
        refine (g1.out q).mono ?_
        rintro e w1 ⟨v1, rfl, h1, hb1⟩
        have hb1' : Below w.heap.size w w1 := (below_drewN (Below.refl _ _) q).trans hb1
        dsimp only
        go_wp2_with fail
        refine (g2.out w1 hb1').mono ?_
        rintro e w2 ⟨v2, rfl, h2', hb2⟩
        dsimp only
        go_wp2_with fail
        refine (node_any w2.heap.size _ _ _ _ w2 (h1.below hb2).sees h2'.sees (Nat.le_refl _) (by omega) (by omega)).mono ?_
        rintro e w3 ⟨v3, rfl, h3, hb3⟩
        dsimp only
        go_wp2_with fail
        go_ret
        exact ⟨v3, rfl, by rw [hroot.out]; exact h3.mono (bgo hb1' hb2).size, bgo (bgo hb1' hb2) hb3⟩
end Go.Proofs.YtkefbjpdpcmpnaaGreat
namespace Go.Proofs.YtkefbjpdpcmpnaaGreat
open Go.RowKit
set_option linter.unusedVariables false
attribute [local go_sem ↓] Go.wp_at_zero Go.wp_at_succ
theorem make_hashes (n : Nat) (hn : n ≤ 1048576) (w : World) : (Instr.makeSlice 192 (.int .i64 (n : Int)) (.int .i64 (n : Int))).run Tryz.prog w = .ok (.slice (some ⟨w.heap.size, 0, none⟩) n n) (w.alloc (.cells (List.replicate n (Value.slice none 0 0)).toArray 23)) := by
  obtain ⟨i, hi, hz, hs, hb⟩ := info_parts slice_info
  have h := run_make (P := Tryz.prog) w 192 23 i (.slice none 0 0) Tryz.underlying192 hi hz .i64 .i64 n n (by omega) (by omega) (by rw [hb]; omega) (by omega)
  rw [h, hs]
  simp only [Int.toNat_natCast, Nat.mul_one]
  rw [← toList_madeCells_one]
  rfl
def ShowsL (ls : List Bs) (w : World) (e : Ending) (w' : World) : Prop := ∃ v, e = .returned v ∧ SeesL w' w'.heap.size v ls ∧ Below w.heap.size w w'
set_option maxRecDepth 100000 in
theorem of_any (ls : List Bs) (B : Nat) (u : Value) (w : World) (hu : SeesL w B u ls) (hB : B ≤ w.heap.size) (hn : ls.length ≤ 1024) (hl : ∀ l ∈ ls, l.length ≤ 1048576) :
    Calls Tryz.prog 169 #[u] w (ShowsL (ls.map leafH) w) := by
  obtain ⟨A, c, rfl, hc1, hc2⟩ := hu.mk_
  have hmk := make_hashes ls.length (by omega)
  replace hu := Lib.hid hu
  go_enter Tryz.func169, Tryz.ntmps169
  go_wp2_with fail
  refine wp_fresh (fun W => W.ownsRow w.heap.size 23 1 (.slice (some ⟨w.heap.size, 0, none⟩) ls.length ls.length) ls.length (List.replicate ls.length (Value.slice none 0 0)) ∧ Below w.heap.size w W ∧ w.heap.size < W.heap.size) ⟨World.ownsRow_lit (base := w.heap.size) (size := 1) w (List.replicate ls.length (Value.slice none 0 0)).toArray ls.length (Nat.le_refl _) (by unfold maxLen; omega) (by simp), (Below.refl _ _).alloc (Nat.le_refl _) _, by simp⟩ ?_
  rintro W0 ⟨ho, hb, hlt0⟩
  replace ho := Lib.hid ho
  replace hb := Lib.hid hb
  obtain ⟨g, hg⟩ : ∃ g, g = w.heap.size := ⟨_, rfl⟩
  rw [← hg] at ho hlt0 ⊢
  replace hg := Lib.hid hg
  clear hmk
  go_loopw [4, 5, 11] (fun _ _ t wr => ∃ (k : Nat) (vs : List Value), k ≤ ls.length ∧ t = .int .i64 k ∧ Hid (wr.ownsRow g 23 1 (.slice (some ⟨g, 0, none⟩) ls.length ls.length) ls.length vs) ∧ Hid (∀ j, j < k → ∃ v, vs[j]? = some v ∧ OwnB wr (g + 1) v (leafH (ls.getD j []))) ∧ Hid (Below w.heap.size w wr) ∧ Hid (g < wr.heap.size)) (fun _ _ t _ => ls.length - (intOf t).toNat)
  case atStart => exact ⟨0, _, by omega, rfl, ho, fun j hj => absurd hj (by omega), hb, hlt0⟩
  case round =>
    clear ho hb hlt0
    obtain ⟨k, vs, hk, rfl, ho, hv, hb, hgl⟩ := hrel
    by_cases hlt : k < ls.length
    · obtain ⟨b, o, rfl, hbB, hcell⟩ := hu.out.at_ (by omega)
      obtain ⟨A', c', hc, g1, g2, hsee⟩ := hcell k hlt
      have x0 := (hb.out.cell (p := ⟨b, o + k, none⟩) (by dsimp only; omega)).trans hc
      have hlk : (ls.getD k []).length ≤ 1048576 := by
        rw [List.getD_eq_getElem?_getD, List.getElem?_eq_getElem hlt]; exact hl _ (List.getElem_mem hlt)
      have hlf := Lib.hid (leaf_any B _ _ wr (hsee.below (hb.out.mono hB)) (Nat.le_trans hB hb.out.size) (by omega))
      obtain ⟨l, hlz⟩ : ∃ l, ls.getD k [] = l := ⟨_, rfl⟩
      rw [hlz] at x0 hlf
      replace hlz := Lib.hid hlz
      clear hc hcell hsee hlk hl g1 g2
      have i0 : (0 : Int) ≤ (k : Int) := by omega
      have i1 : (k : Int) < (ls.length : Int) := by omega
      go_wp2_with fail
      refine hlf.out.mono ?_
      rintro e w2 ⟨v2, rfl, h2, hb2⟩
      have ho2 := own_below ho.out hb2
      obtain ⟨z, hz⟩ : ∃ z, vs[k]? = some z := ⟨vs[k]'(by have := ho2.1; omega), List.getElem?_eq_getElem _⟩
      have y0 : w2.cell? ⟨g, k, none⟩ = some z := (ho2.cellAt k (by omega)).trans hz
      have f0 := ho2.frozenAt k
      obtain ⟨A2, c2, rfl, -, -⟩ := h2.sees.mk_
      replace ho2 := Lib.hid ho2
      replace hz := Lib.hid hz
      replace h2 := Lib.hid (h2.mono (show g + 1 ≤ wr.heap.size from hgl.out))
      replace hv := Lib.hid (fun j hj => by obtain ⟨v, e1, e2⟩ := hv.out j hj; exact ⟨v, e1, e2.below hb2⟩ : ∀ j, j < k → ∃ v, vs[j]? = some v ∧ OwnB w2 (g + 1) v (leafH (ls.getD j [])))
      replace hgl := Lib.hid (Nat.lt_of_lt_of_le hgl.out hb2.size)
      replace hb := Lib.hid (bgo hb.out hb2)
      clear hb2 hlf ho
      dsimp only
      go_wp2_with fail
      go_roundw
      case rel =>
        refine ⟨k + 1, vs.set k (.slice A2 (leafH l).length c2), by omega, by go_num, (ho2.out.stored k _).1, fun j hj => ?_, hb.out.setCell (by have := hg.out; dsimp only; omega) _, by have := hgl.out; show _ < _; simp [World.setCell]; omega⟩
        by_cases hjk : j = k
        · subst hjk
          refine ⟨_, List.getElem?_set_self (by have := ho2.out.1; omega), ?_⟩
          rw [hlz.out]
          exact ownsRow_setCell_below h2.out (by dsimp only; omega) _
        · obtain ⟨v, e1, e2⟩ := hv.out j (by omega)
          exact ⟨v, by rw [List.getElem?_set_ne (by omega)]; exact e1, ownsRow_setCell_below e2 (by dsimp only; omega) _⟩
      case measure => simp [intOf]; omega
    · have hkn : k = ls.length := by omega
      have hfin : Hid (SeesL wr wr.heap.size (.slice (some ⟨g, 0, none⟩) ls.length ls.length) (ls.map leafH)) := by
        refine ⟨vs, by rw [List.length_map]; exact Sees.of_own ho.out, fun j hj => ?_⟩
        rw [List.length_map] at hj
        obtain ⟨v, e1, e2⟩ := hv.out j (by omega)
        refine ⟨v, e1, ?_⟩
        rw [List.getD_eq_getElem?_getD, List.getElem?_map, List.getElem?_eq_getElem hj, Option.map_some, Option.getD_some]
        rw [List.getD_eq_getElem?_getD, List.getElem?_eq_getElem hj, Option.getD_some] at e2
        exact e2.sees
      replace hkn := Lib.hid hkn
      go_wp2_with fail
      go_ret
      exact ⟨_, rfl, hfin.out, hb.out⟩
end Go.Proofs.YtkefbjpdpcmpnaaGreat
namespace Go.Proofs.YtkefbjpdpcmpnaaGreat
open Go.RowKit
set_option linter.unusedVariables false
attribute [local go_sem ↓] Go.wp_at_zero Go.wp_at_succ
theorem root_top (ls : List Bs) (B : Nat) (u : Value) (w : World) (hu : SeesL w B u ls) (hB : B ≤ w.heap.size) (hn : ls.length ≤ 1024) (hl : ∀ l ∈ ls, l.length ≤ 1048576) :
    Calls Tryz.prog 164 #[u] w (RootPost ls w) := by
  have hs := Lib.hid (of_any ls B u w hu hB hn hl)
  obtain ⟨A, c, rfl, hc1, hc2⟩ := hu.mk_
  have j0 : ¬ ((1024 : Int) < (ls.length : Int)) := by omega
  clear hu hl
  go_enter Tryz.func164, Tryz.ntmps164
  go_wp2_with fail
  refine hs.out.mono ?_
  rintro e w1 ⟨v, rfl, h1, hb1⟩
  dsimp only
  go_wp2_with fail
  refine (root_any _ _ _ _ _ (Nat.le_refl _) h1 (Nat.le_refl _) (by rw [List.length_map]; exact hn) (leafs_len ls)).mono ?_
  rintro e w2 ⟨v2, rfl, h2, hb2⟩
  dsimp only
  go_wp2_with fail
  go_returns
  exact ⟨v2, rfl, h2.mono hb1.size, bgo hb1 hb2⟩
end Go.Proofs.YtkefbjpdpcmpnaaGreat

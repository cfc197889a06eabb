/- A piece of my texts, cut out by slice.py: what a claim leans on. -/
import Derived.Test.YtpdphpekgphniaaTKAa
namespace Go.Proofs.Ytpdphpekgphniaa
section
open Go.RowKit
set_option linter.unusedVariables false
set_option maxHeartbeats 4000000 in
set_option maxRecDepth 100000 in
theorem len64_any (x : Int) (w : World) (h0 : 0 ≤ x) (h1 : x < 65536) :
    Calls Try.prog 90 #[.int .u64 x] w fun e w' => e = .returned (.int .i64 (Lib.bitLen x.toNat)) ∧ w' = w := by
  have t9 : Try.prog.underlying 9 = some .string := Try.underlying9
  by_cases hx : x < 256
  · have hix : ∀ W, (Instr.index 9 (.string Lib.len8tab) (.int .u8 x)).run Try.prog W = .ok (.int .u8 (Lib.len8 x)) W := fun W => Lib.run_index_len8tab W _ _ _ t9 h0 (by omega)
    go_enter Try.func90, Try.ntmps90
    go_wp2
    go_ret
    refine ⟨congrArg Ending.returned (congrArg (Value.int IntKind.i64) ?_), rfl⟩
    have l := Lib.bitLen_le8' x h0 (by omega)
    rw [Lib.len8_of x h0 (by omega)]
    unfold wrap64; omega
  · have hix : ∀ W, (Instr.index 9 (.string Lib.len8tab) (.int .u8 (x / 256))).run Try.prog W = .ok (.int .u8 (Lib.len8 (x / 256))) W := fun W => Lib.run_index_len8tab W _ _ _ t9 (by omega) (by omega)
    go_enter Try.func90, Try.ntmps90
    go_wp2
    go_ret
    refine ⟨congrArg Ending.returned (congrArg (Value.int IntKind.i64) ?_), rfl⟩
    have l := Lib.bitLen_le8' (x / 256) (by omega) (by omega)
    have s := Lib.bitLen_shift8 x.toNat (by omega) (by omega)
    rw [Lib.len8_of (x / 256) (by omega) (by omega), s, show x.toNat / 256 = (x / 256).toNat by omega]
    unfold wrap64; omega
theorem len_any (x : Int) (w : World) (h0 : 0 ≤ x) (h1 : x < 65536) :
    Calls Try.prog 84 #[.int .u64 x] w fun e w' => e = .returned (.int .i64 (Lib.bitLen x.toNat)) ∧ w' = w := by
  go_enter Try.func84, Try.ntmps84
  go_wp2_with (go_at_call 90; refine (len64_any x _ h0 h1).mono ?_; rintro e w' ⟨rfl, rfl⟩)
  go_ret
  exact ⟨rfl, rfl⟩
theorem bitLen_log (x : Nat) (h : 1 ≤ x) (hx : x < 2 ^ 64) : Lib.bitLen x = x.log2 + 1 := by
  induction x using Nat.strongRecOn with
  | ind x ih =>
    rw [Lib.bitLen_half x (by omega) hx, Nat.log2_def]
    by_cases h2 : 2 ≤ x
    · rw [if_pos h2, ih (x / 2) (by omega) (by omega) (by omega)]; omega
    · have : x = 1 := by omega
      subst this
      decide
theorem half_any (n : Nat) (w : World) (h2 : 2 ≤ n) (hn : n ≤ 1024) :
    Calls Try.prog 76 #[.int .i64 (n : Int)] w fun e w' => e = .returned (.int .i64 (splitN n : Int)) ∧ w' = w := by
  have e0 : IntKind.i64.wrap ((n : Int) - 1) = ((n - 1 : Nat) : Int) := by rw [IntKind.wrap_i64]; omega
  have e1 : IntKind.u64.wrap (((n - 1 : Nat) : Int)) = ((n - 1 : Nat) : Int) := by rw [IntKind.wrap_u64]; omega
  have hl := Lib.hid (len_any ((n - 1 : Nat) : Int) w (by omega) (by omega))
  have hlog := Lib.hid (bitLen_log (n - 1) (by omega) (by omega))
  go_enter Try.func76, Try.ntmps76
  go_wp2_with fail
  refine hl.out.mono ?_
  rintro e w' ⟨rfl, rfl⟩
  rw [Int.toNat_natCast, hlog.out]
  have hk : (n - 1).log2 ≤ 9 := by
    have := (Nat.log2_eq_iff (n := n - 1) (k := (n - 1).log2) (by omega)).1 rfl
    rcases Nat.lt_or_ge 9 (n - 1).log2 with h | h
    · have h3 : 2 ^ 10 ≤ 2 ^ (n - 1).log2 := Nat.pow_le_pow_right (by omega) h
      omega
    · exact h
  have hs : Hid (splitN n = 2 ^ (n - 1).log2) := rfl
  generalize (n - 1).log2 = k at hk hs
  have k0 : IntKind.i64.wrap (((k + 1 : Nat) : Int) - 1) = (k : Int) := by rw [IntKind.wrap_i64]; omega
  dsimp only
  rcases (by omega : k = 0 ∨ k = 1 ∨ k = 2 ∨ k = 3 ∨ k = 4 ∨ k = 5 ∨ k = 6 ∨ k = 7 ∨ k = 8 ∨ k = 9) with rfl | rfl | rfl | rfl | rfl | rfl | rfl | rfl | rfl | rfl
  all_goals
    go_wp2_with fail
    go_ret
    exact ⟨ret_int (by rw [hs.out]; decide), rfl⟩
end
section
open Go.RowKit
set_option linter.unusedVariables false
attribute [local go_sem ↓] Go.wp_at_zero Go.wp_at_succ
/-- The root of the tree over hashes. -/
def rootG (hs : List Bs) : Bs :=
  if h : 2 ≤ hs.length then nodeH (rootG (hs.take (splitN hs.length))) (rootG (hs.drop (splitN hs.length)))
  else match hs with
    | [] => sha []
    | x :: _ => x
termination_by hs.length
decreasing_by
  · have := splitN_lt hs.length h; rw [List.length_take]; omega
  · have := splitN_lt hs.length h; rw [List.length_drop]; omega
theorem rootG_two (hs : List Bs) (h : 2 ≤ hs.length) : rootG hs = nodeH (rootG (hs.take (splitN hs.length))) (rootG (hs.drop (splitN hs.length))) := by
  rw [rootG, dif_pos h]
theorem rootG_nil : rootG [] = sha [] := by rw [rootG]; rfl
theorem rootG_one (x : Bs) : rootG [x] = x := by rw [rootG]; rfl
theorem SeesL.cut {w : World} {B : Nat} {A : Option Addr} {n c a b : Nat} {ls : List Bs} (h : SeesL w B (.slice A n c) ls) (hab : a ≤ b) (hb : b ≤ ls.length) :
    SeesL w B (.slice (cutA A c a 1) (b - a) (c - a)) ((ls.drop a).take (b - a)) := by
  obtain ⟨vs, hs, hv⟩ := h
  have hn : n = ls.length := by
    obtain ⟨_, A', c', e, _⟩ := hs
    injection e
  subst hn
  have h1 := Sees.cut (l := a) (h' := b) hs hab hb
  rw [Nat.mul_one, Nat.mul_one] at h1
  have hl : ((ls.drop a).take (b - a)).length = b - a := by rw [List.length_take, List.length_drop]; omega
  refine ⟨(vs.drop a).take (b - a), by rw [hl]; exact h1, fun k hk => ?_⟩
  rw [hl] at hk
  obtain ⟨v, h2, h3⟩ := hv (a + k) (by omega)
  refine ⟨v, by rw [List.getElem?_take, if_pos hk, List.getElem?_drop]; exact h2, ?_⟩
  rw [List.getD_eq_getElem?_getD, List.getElem?_take, if_pos hk, List.getElem?_drop, ← List.getD_eq_getElem?_getD]
  exact h3
end
section
open Go.RowKit
set_option linter.unusedVariables false
attribute [local go_sem ↓] Go.wp_at_zero Go.wp_at_succ
theorem cutA_zero (b o c s : Nat) : cutA (some ⟨b, o, none⟩) c 0 s = some ⟨b, o, none⟩ := by
  unfold cutA
  split
  · rfl
  · rw [Option.map_some, Nat.zero_mul, add_zero', Nat.add_zero]
theorem nodeH_len (a b : Bs) : (nodeH a b).length = 32 := sha_len _
theorem rootG_len (hs : List Bs) (h : ∀ x ∈ hs, x.length = 32) : (rootG hs).length = 32 := by
  by_cases h2 : 2 ≤ hs.length
  · rw [rootG_two hs h2]; exact nodeH_len _ _
  · match hs, h with
    | [], _ => rw [rootG_nil]; exact sha_len _
    | [x], h => rw [rootG_one]; exact h x (by simp)
    | _ :: _ :: _, _ => simp at h2
theorem leafs_len (ls : List Bs) : ∀ x ∈ ls.map leafH, x.length = 32 := by
  intro x hx
  obtain ⟨y, _, rfl⟩ := List.mem_map.1 hx
  exact sha_len _
end
section
open Go.RowKit
set_option linter.unusedVariables false
attribute [local go_sem ↓] Go.wp_at_zero Go.wp_at_succ
def RootPost (ls : List Bs) (w : World) (e : Ending) (w' : World) : Prop :=
  ∃ v, e = .returned (.tuple #[v, .int .i64 0]) ∧ OwnB w' w.heap.size v (rootG (ls.map leafH)) ∧ Below w.heap.size w w'
theorem hashes_size (w : World) : (sizeOf 22).run Try.prog w = .ok 1 w := slice_size w
def DividePost (A : Option Addr) (n c : Nat) (w : World) (e : Ending) (w' : World) : Prop :=
  e = .returned (.tuple #[.slice A (splitN n) c, .slice (cutA A c (splitN n) 1) (n - splitN n) (c - splitN n)]) ∧ ∃ k, w' = w.drewN k
set_option maxRecDepth 100000 in
theorem divide_any (A : Option Addr) (n c : Nat) (w : World) (h2 : 2 ≤ n) (hn : n ≤ 1024) (hc : n ≤ c) (hm : c ≤ maxLen) :
    Calls Try.prog 59 #[.slice A n c] w (DividePost A n c w) := by
  obtain ⟨k1, k2, k3⟩ := splitN_lt n h2
  have hh := Lib.hid (half_any n w h2 hn)
  unfold DividePost
  generalize splitN n = k at *
  have r2 := run_cut_from (P := Try.prog) 66 Try.underlying66 1 hashes_size A n c .i64 (k : Int) (by omega) (by omega)
  rw [Int.toNat_natCast] at r2
  generalize cutA A c k 1 = A2 at r2 ⊢
  have j0 : (0 : Int) ≤ (k : Int) := by omega
  have j1 : (k : Int) ≤ (c : Int) := by omega
  have j2 : (k : Int) ≤ (n : Int) := by omega
  go_enter Try.func59, Try.ntmps59
  go_wp2_with fail
  refine hh.out.mono ?_
  rintro e w0 ⟨rfl, rfl⟩
  dsimp only
  go_wp2_with fail
  go_quiet (fail)
  go_wp2_with fail
  go_returns
  exact ⟨rfl, _, rfl⟩
end
section
open Go.RowKit
set_option linter.unusedVariables false
attribute [local go_sem ↓] Go.wp_at_zero Go.wp_at_succ
set_option maxRecDepth 100000 in
theorem root_any (m : Nat) : ∀ (ls : List Bs) (B : Nat) (u : Value) (w : World), ls.length ≤ m → SeesL w B u ls → B ≤ w.heap.size → ls.length ≤ 1024 → (∀ l ∈ ls, l.length = 32) →
    Calls Try.prog 37 #[u] w (Gives (rootG ls) w) := by
  induction m with
  | zero =>
    intro ls B u w hm hu hB hn hl
    obtain rfl : ls = [] := List.eq_nil_of_length_eq_zero (by omega)
    obtain ⟨A, c, rfl, hc1, hc2⟩ := hu.mk_
    have hs := Lib.hid (sum_any B (.slice none 0 0) [] w (SeesB.nil _ _) hB (by simp))
    go_enter Try.func37, Try.ntmps37
    go_wp2_with fail
    refine hs.out.mono ?_
    rintro e w1 ⟨v, rfl, h1, hb1⟩
    dsimp only
    go_wp2_with fail
    go_ret
    exact ⟨v, rfl, by rw [rootG_nil]; exact h1, hb1⟩
  | succ m ih =>
    intro ls B u w hm hu hB hn hl
    by_cases h0 : ls.length ≤ m
    · exact ih ls B u w h0 hu hB hn hl
    · have hlen : ls.length = m + 1 := by omega
      by_cases hm0 : m = 0
      · subst hm0
        obtain ⟨A, c, rfl, hc1, hc2⟩ := hu.mk_
        match ls, hlen, hu, hl with
        | [x], _, hu, hl =>
          obtain ⟨b, o, rfl, hb, hcell⟩ := hu.at_ (by simp)
          obtain ⟨A', c', x0, g1, g2, hsee⟩ := hcell 0 (by simp)
          rw [Nat.add_zero] at x0
          have hs := Lib.hid (clone_any B _ _ w hsee hB (by have := hl x (by simp); simp; omega))
          clear hcell hsee hu ih hl
          simp only [List.getD_cons_zero, List.length_cons, List.length_nil] at *
          go_enter Try.func37, Try.ntmps37
          go_wp2_with fail
          refine hs.out.mono ?_
          rintro e w1 ⟨v, rfl, h1, hb1⟩
          dsimp only
          go_wp2_with fail
          go_ret
          exact ⟨v, rfl, by rw [rootG_one]; exact h1, hb1⟩
      · obtain ⟨A, c, rfl, hc1, hc2⟩ := hu.mk_
        have h2 : 2 ≤ ls.length := by omega
        obtain ⟨k1, k2, k3⟩ := splitN_lt ls.length h2
        have hdv := divide_any A ls.length c w h2 hn hc1 hc2
        unfold DividePost at hdv
        have hroot : Hid (rootG ls = nodeH (rootG (ls.take (splitN ls.length))) (rootG (ls.drop (splitN ls.length)))) := rootG_two ls h2
        generalize splitN ls.length = k at *
        obtain ⟨b, o, rfl, hbB, -⟩ := hu.at_ (by omega)
        have c1 := SeesL.cut (a := 0) (b := k) hu (by omega) (by omega)
        have c2 := SeesL.cut (a := k) (b := ls.length) hu (by omega) (Nat.le_refl _)
        rw [cutA_zero, Nat.sub_zero, Nat.sub_zero, List.drop_zero] at c1
        rw [List.take_of_length_le (by rw [List.length_drop]; omega)] at c2
        generalize cutA (some ⟨b, o, none⟩) c k 1 = A2 at hdv c2
        have l1 : ∀ x ∈ ls.take k, x.length = 32 := fun x hx => hl x (List.mem_of_mem_take hx)
        have l2 : ∀ x ∈ ls.drop k, x.length = 32 := fun x hx => hl x (List.mem_of_mem_drop hx)
        have n1 : (ls.take k).length ≤ m := by rw [List.length_take]; omega
        have n2 : (ls.drop k).length ≤ m := by rw [List.length_drop]; omega
        have g1 := Lib.hid (fun q => ih (ls.take k) B _ (w.drewN q) n1 (SeesL.below c1 (below_drewN (Below.refl B w) q)) hB (by omega) l1)
        have g2 := Lib.hid (fun (W : World) (hbW : Below w.heap.size w W) => ih (ls.drop k) B _ W n2 (SeesL.below c2 (hbW.mono hB)) (Nat.le_trans hB hbW.size) (by omega) l2)
        have q1 := rootG_len _ l1
        have q2 := rootG_len _ l2
        have j3 : ¬ ((ls.length : Int) = 0) := by omega
        have j4 : ¬ ((ls.length : Int) = 1) := by omega
        have hlm : Hid (ls.length = m + 1) := hlen
        replace hdv := Lib.hid hdv
        clear ih c1 c2 hu hlen
        go_enter Try.func37, Try.ntmps37
        go_wp2_with fail
        refine hdv.out.mono ?_
        rintro e w0 ⟨rfl, q, rfl⟩
        dsimp only
        go_wp2_with fail
        refine (g1.out q).mono ?_
        rintro e w1 ⟨v1, rfl, h1, hb1⟩
        have hb1' : Below w.heap.size w w1 := (below_drewN (Below.refl _ _) q).trans hb1
        dsimp only
        go_wp2_with fail
        refine (g2.out w1 hb1').mono ?_
        rintro e w2 ⟨v2, rfl, h2', hb2⟩
        dsimp only
        go_wp2_with fail
        refine (node_any w2.heap.size _ _ _ _ w2 (h1.below hb2).sees h2'.sees (Nat.le_refl _) (by omega) (by omega)).mono ?_
        rintro e w3 ⟨v3, rfl, h3, hb3⟩
        dsimp only
        go_wp2_with fail
        go_ret
        exact ⟨v3, rfl, by rw [hroot.out]; exact h3.mono (bgo hb1' hb2).size, bgo (bgo hb1' hb2) hb3⟩
end
section
open Go.RowKit
set_option linter.unusedVariables false
attribute [local go_sem ↓] Go.wp_at_zero Go.wp_at_succ
theorem make_hashes (n : Nat) (hn : n ≤ 1048576) (w : World) : (Instr.makeSlice 66 (.int .i64 (n : Int)) (.int .i64 (n : Int))).run Try.prog w = .ok (.slice (some ⟨w.heap.size, 0, none⟩) n n) (w.alloc (.cells (List.replicate n (Value.slice none 0 0)).toArray 22)) := by
  obtain ⟨i, hi, hz, hs, hb⟩ := info_parts slice_info
  have h := run_make (P := Try.prog) w 66 22 i (.slice none 0 0) Try.underlying66 hi hz .i64 .i64 n n (by omega) (by omega) (by rw [hb]; omega) (by omega)
  rw [h, hs]
  simp only [Int.toNat_natCast, Nat.mul_one]
  rw [← toList_madeCells_one]
  rfl
def ShowsL (ls : List Bs) (w : World) (e : Ending) (w' : World) : Prop := ∃ v, e = .returned v ∧ SeesL w' w'.heap.size v ls ∧ Below w.heap.size w w'
set_option maxRecDepth 100000 in
theorem of_any (ls : List Bs) (B : Nat) (u : Value) (w : World) (hu : SeesL w B u ls) (hB : B ≤ w.heap.size) (hn : ls.length ≤ 1024) (hl : ∀ l ∈ ls, l.length ≤ 1048576) :
    Calls Try.prog 36 #[u] w (ShowsL (ls.map leafH) w) := by
  obtain ⟨A, c, rfl, hc1, hc2⟩ := hu.mk_
  have hmk := make_hashes ls.length (by omega)
  replace hu := Lib.hid hu
  go_enter Try.func36, Try.ntmps36
  go_wp2_with fail
  refine wp_fresh (fun W => W.ownsRow w.heap.size 22 1 (.slice (some ⟨w.heap.size, 0, none⟩) ls.length ls.length) ls.length (List.replicate ls.length (Value.slice none 0 0)) ∧ Below w.heap.size w W ∧ w.heap.size < W.heap.size) ⟨World.ownsRow_lit (base := w.heap.size) (size := 1) w (List.replicate ls.length (Value.slice none 0 0)).toArray ls.length (Nat.le_refl _) (by unfold maxLen; omega) (by simp), (Below.refl _ _).alloc (Nat.le_refl _) _, by simp⟩ ?_
  rintro W0 ⟨ho, hb, hlt0⟩
  replace ho := Lib.hid ho
  replace hb := Lib.hid hb
  obtain ⟨g, hg⟩ : ∃ g, g = w.heap.size := ⟨_, rfl⟩
  rw [← hg] at ho hlt0 ⊢
  replace hg := Lib.hid hg
  clear hmk
  go_loopw [4, 5, 11] (fun _ _ t wr => ∃ (k : Nat) (vs : List Value), k ≤ ls.length ∧ t = .int .i64 k ∧ Hid (wr.ownsRow g 22 1 (.slice (some ⟨g, 0, none⟩) ls.length ls.length) ls.length vs) ∧ Hid (∀ j, j < k → ∃ v, vs[j]? = some v ∧ OwnB wr (g + 1) v (leafH (ls.getD j []))) ∧ Hid (Below w.heap.size w wr) ∧ Hid (g < wr.heap.size)) (fun _ _ t _ => ls.length - (intOf t).toNat)
  case atStart => exact ⟨0, _, by omega, rfl, ho, fun j hj => absurd hj (by omega), hb, hlt0⟩
  case round =>
    clear ho hb hlt0
    obtain ⟨k, vs, hk, rfl, ho, hv, hb, hgl⟩ := hrel
    by_cases hlt : k < ls.length
    · obtain ⟨b, o, rfl, hbB, hcell⟩ := hu.out.at_ (by omega)
      obtain ⟨A', c', hc, g1, g2, hsee⟩ := hcell k hlt
      have x0 := (hb.out.cell (p := ⟨b, o + k, none⟩) (by dsimp only; omega)).trans hc
      have hlk : (ls.getD k []).length ≤ 1048576 := by
        rw [List.getD_eq_getElem?_getD, List.getElem?_eq_getElem hlt]; exact hl _ (List.getElem_mem hlt)
      have hlf := Lib.hid (leaf_any B _ _ wr (hsee.below (hb.out.mono hB)) (Nat.le_trans hB hb.out.size) (by omega))
      obtain ⟨l, hlz⟩ : ∃ l, ls.getD k [] = l := ⟨_, rfl⟩
      rw [hlz] at x0 hlf
      replace hlz := Lib.hid hlz
      clear hc hcell hsee hlk hl g1 g2
      have i0 : (0 : Int) ≤ (k : Int) := by omega
      have i1 : (k : Int) < (ls.length : Int) := by omega
      go_wp2_with fail
      refine hlf.out.mono ?_
      rintro e w2 ⟨v2, rfl, h2, hb2⟩
      have ho2 := own_below ho.out hb2
      obtain ⟨z, hz⟩ : ∃ z, vs[k]? = some z := ⟨vs[k]'(by have := ho2.1; omega), List.getElem?_eq_getElem _⟩
      have y0 : w2.cell? ⟨g, k, none⟩ = some z := (ho2.cellAt k (by omega)).trans hz
      have f0 := ho2.frozenAt k
      obtain ⟨A2, c2, rfl, -, -⟩ := h2.sees.mk_
      replace ho2 := Lib.hid ho2
      replace hz := Lib.hid hz
      replace h2 := Lib.hid (h2.mono (show g + 1 ≤ wr.heap.size from hgl.out))
      replace hv := Lib.hid (fun j hj => by obtain ⟨v, e1, e2⟩ := hv.out j hj; exact ⟨v, e1, e2.below hb2⟩ : ∀ j, j < k → ∃ v, vs[j]? = some v ∧ OwnB w2 (g + 1) v (leafH (ls.getD j [])))
      replace hgl := Lib.hid (Nat.lt_of_lt_of_le hgl.out hb2.size)
      replace hb := Lib.hid (bgo hb.out hb2)
      clear hb2 hlf ho
      dsimp only
      go_wp2_with fail
      go_roundw
      case rel =>
        refine ⟨k + 1, vs.set k (.slice A2 (leafH l).length c2), by omega, by go_num, (ho2.out.stored k _).1, fun j hj => ?_, hb.out.setCell (by have := hg.out; dsimp only; omega) _, by have := hgl.out; show _ < _; simp [World.setCell]; omega⟩
        by_cases hjk : j = k
        · subst hjk
          refine ⟨_, List.getElem?_set_self (by have := ho2.out.1; omega), ?_⟩
          rw [hlz.out]
          exact ownsRow_setCell_below h2.out (by dsimp only; omega) _
        · obtain ⟨v, e1, e2⟩ := hv.out j (by omega)
          exact ⟨v, by rw [List.getElem?_set_ne (by omega)]; exact e1, ownsRow_setCell_below e2 (by dsimp only; omega) _⟩
      case measure => simp [intOf]; omega
    · have hkn : k = ls.length := by omega
      have hfin : Hid (SeesL wr wr.heap.size (.slice (some ⟨g, 0, none⟩) ls.length ls.length) (ls.map leafH)) := by
        refine ⟨vs, by rw [List.length_map]; exact Sees.of_own ho.out, fun j hj => ?_⟩
        rw [List.length_map] at hj
        obtain ⟨v, e1, e2⟩ := hv.out j (by omega)
        refine ⟨v, e1, ?_⟩
        rw [List.getD_eq_getElem?_getD, List.getElem?_map, List.getElem?_eq_getElem hj, Option.map_some, Option.getD_some]
        rw [List.getD_eq_getElem?_getD, List.getElem?_eq_getElem hj, Option.getD_some] at e2
        exact e2.sees
      replace hkn := Lib.hid hkn
      go_wp2_with fail
      go_ret
      exact ⟨_, rfl, hfin.out, hb.out⟩
end
section
open Go.RowKit
set_option linter.unusedVariables false
attribute [local go_sem ↓] Go.wp_at_zero Go.wp_at_succ
theorem root_top (ls : List Bs) (B : Nat) (u : Value) (w : World) (hu : SeesL w B u ls) (hB : B ≤ w.heap.size) (hn : ls.length ≤ 1024) (hl : ∀ l ∈ ls, l.length ≤ 1048576) :
    Calls Try.prog 18 #[u] w (RootPost ls w) := by
  have hs := Lib.hid (of_any ls B u w hu hB hn hl)
  obtain ⟨A, c, rfl, hc1, hc2⟩ := hu.mk_
  have j0 : ¬ ((1024 : Int) < (ls.length : Int)) := by omega
  clear hu hl
  go_enter Try.func18, Try.ntmps18
  go_wp2_with fail
  refine hs.out.mono ?_
  rintro e w1 ⟨v, rfl, h1, hb1⟩
  dsimp only
  go_wp2_with fail
  refine (root_any _ _ _ _ _ (Nat.le_refl _) h1 (Nat.le_refl _) (by rw [List.length_map]; exact hn) (leafs_len ls)).mono ?_
  rintro e w2 ⟨v2, rfl, h2, hb2⟩
  dsimp only
  go_wp2_with fail
  go_returns
  exact ⟨v2, rfl, h2.mono hb1.size, bgo hb1 hb2⟩
end
section
open Go.RowKit
set_option linter.unusedVariables false
attribute [local go_sem ↓] Go.wp_at_zero Go.wp_at_succ
def leavesL (seed : Bs) (n : Nat) : List Bs := (List.range n).map (otPublic seed)
theorem leavesL_len (seed : Bs) (n : Nat) : (leavesL seed n).length = n := by simp [leavesL]
theorem leavesL_succ (seed : Bs) (n : Nat) : leavesL seed (n + 1) = leavesL seed n ++ [otPublic seed n] := by simp [leavesL, List.range_succ]
theorem leavesL_el (seed : Bs) (n : Nat) : ∀ l ∈ leavesL seed n, l.length = 16 := by
  intro l hl
  obtain ⟨i, _, rfl⟩ := List.mem_map.1 hl
  exact short_len _
/-- The call returns a row of its own with these lists of bytes, and changes nothing that was there. -/
def GivesL (ls : List Bs) (w : World) (e : Ending) (w' : World) : Prop := ∃ v, e = .returned v ∧ OwnL w' w.heap.size v ls ∧ Below w.heap.size w w'
theorem wrap_pow (h : Nat) (hh : h ≤ 6) : wrap64 ((2 : Int) ^ h) = ((2 ^ h : Nat) : Int) := by
  rcases (by omega : h = 0 ∨ h = 1 ∨ h = 2 ∨ h = 3 ∨ h = 4 ∨ h = 5 ∨ h = 6) with rfl | rfl | rfl | rfl | rfl | rfl | rfl
  all_goals decide +kernel
theorem pow_le64 (h : Nat) (hh : h ≤ 6) : 1 ≤ 2 ^ h ∧ 2 ^ h ≤ 64 := by
  rcases (by omega : h = 0 ∨ h = 1 ∨ h = 2 ∨ h = 3 ∨ h = 4 ∨ h = 5 ∨ h = 6) with rfl | rfl | rfl | rfl | rfl | rfl | rfl
  all_goals decide
theorem set_rep (ls : List Bs) (k n : Nat) (x : Bs) (hk : ls.length = k) (hn : k < n) : (ls ++ List.replicate (n - k) []).set k x = (ls ++ [x]) ++ List.replicate (n - (k + 1)) [] := by
  subst hk
  rw [List.set_append_right _ _ (Nat.le_refl _), Nat.sub_self, show n - ls.length = (n - (ls.length + 1)) + 1 from by omega, List.replicate_succ, List.set_cons_zero, List.append_assoc]
  rfl
set_option maxRecDepth 100000 in
theorem leaves_any (B : Nat) (u : Value) (seed : Bs) (h : Nat) (w : World) (hu : SeesB w B u seed) (hB : B ≤ w.heap.size) (hl : seed.length = 32) (hh : h ≤ 6) :
    Calls Try.prog 35 #[u, .int .i64 (h : Int)] w (GivesL (leavesL seed (2 ^ h)) w) := by
  obtain ⟨A, c, rfl, hc1, hc2⟩ := hu.mk_
  rw [hl] at hc1 hu ⊢
  replace hl := Lib.hid hl
  have hsh := wrap_pow h hh
  obtain ⟨n1, n2⟩ := pow_le64 h hh
  generalize 2 ^ h = n at *
  have hmk := make_lists 41 Try.underlying41 n (by omega)
  have hlen0 := leavesL_len seed
  replace hlen0 := Lib.hid hlen0
  replace hu := Lib.hid hu
  go_enter Try.func35, Try.ntmps35
  go_wp2_with fail
  refine wp_fresh (fun W => OwnL W w.heap.size (.slice (some ⟨w.heap.size, 0, none⟩) n n) (leavesL seed 0 ++ List.replicate (n - 0) []) ∧ Below w.heap.size w W ∧ w.heap.size < W.heap.size) ⟨show OwnL _ _ _ (List.replicate n []) from OwnL.made w n (by unfold maxLen; omega), balloc w _, by simp⟩ ?_
  rintro W0 ⟨ho, hb, hlt0⟩
  replace ho := Lib.hid ho
  replace hb := Lib.hid hb
  obtain ⟨g, hg⟩ : ∃ g, g = w.heap.size := ⟨_, rfl⟩
  rw [← hg] at ho hlt0 ⊢
  replace hg := Lib.hid hg
  clear hmk hsh
  go_loopw [6, 12] (fun _ t wr => ∃ k : Nat, k ≤ n ∧ t = .int .i64 k ∧ Hid (OwnL wr g (.slice (some ⟨g, 0, none⟩) n n) (leavesL seed k ++ List.replicate (n - k) [])) ∧ Hid (Below w.heap.size w wr) ∧ Hid (g < wr.heap.size)) (fun _ t _ => n - (intOf t).toNat)
  case atStart => exact ⟨0, by omega, rfl, ho, hb, hlt0⟩
  case round =>
    clear ho hb hlt0
    obtain ⟨k, hk, rfl, ho, hb, hgl⟩ := hrel
    by_cases hlt : k < n
    · have hpb := otpublic_any B _ seed (k : Int) wr (hu.out.below (hb.out.mono hB)) (Nat.le_trans hB hb.out.size)
      have hoc : otC seed (k : Int) = 0 := by simp [otC, hl.out]; omega
      unfold PubPost pubL at hpb
      rw [hoc, if_pos rfl, Int.toNat_natCast] at hpb
      replace hpb := Lib.hid hpb
      have hst : Hid (leavesL seed (k + 1) ++ List.replicate (n - (k + 1)) [] = (leavesL seed k ++ List.replicate (n - k) []).set k (otPublic seed k)) := by
        show _ = _
        rw [set_rep _ _ _ _ (leavesL_len seed k) hlt, leavesL_succ]
      have hrow : Hid (k < (leavesL seed k ++ List.replicate (n - k) []).length) := by show _ < _; rw [List.length_append, leavesL_len, List.length_replicate]; omega
      generalize leavesL seed k ++ List.replicate (n - k) [] = row at *
      generalize otPublic seed k = l at *
      clear hoc
      have i0 : (0 : Int) ≤ (k : Int) := by omega
      have i1 : (k : Int) < (n : Int) := by omega
      go_wp2_with fail
      refine hpb.out.mono ?_
      rintro e w2 ⟨v2, rfl, h2, hb2, hf2⟩
      have ho2 := ho.out.below hb2
      obtain ⟨⟨z, y0⟩, f0⟩ := ho2.cell hrow.out
      obtain ⟨o1, o2⟩ := ho2.set hrow.out (Elt.of_from h2 hf2 (fun k hk => by cases hk; exact hgl.out))
      obtain ⟨A2, c2, rfl, -, -⟩ := h2.mk_
      replace hb := Lib.hid ((bgo hb.out hb2).trans (o2.mono (by have := hg.out; omega)))
      replace hgl : Hid (g < (w2.setCell ⟨g, k, none⟩ (.slice A2 l.length c2)).heap.size) := Nat.lt_of_lt_of_le (Nat.lt_of_lt_of_le hgl.out hb2.size) o2.size
      replace o1 := Lib.hid o1
      clear hb2 hpb ho ho2 o2 h2 hf2
      dsimp only
      go_wp2_with fail
      go_roundw
      case rel => exact ⟨k + 1, by omega, by go_num, by rw [hst.out]; exact o1.out, hb, hgl⟩
      case measure => simp [intOf]; omega
    · have hkn : k = n := by omega
      have hfin : Hid (OwnL wr w.heap.size (.slice (some ⟨g, 0, none⟩) n n) (leavesL seed n)) := by
        have := ho.out
        rw [hkn, Nat.sub_self, List.replicate_zero, List.append_nil] at this
        exact this.mono (by have := hg.out; omega)
      replace hkn := Lib.hid hkn
      clear ho
      go_wp2_with fail
      go_ret
      exact ⟨_, rfl, hfin.out, hb.out⟩
end
section
open Go.RowKit
set_option linter.unusedVariables false
attribute [local go_sem ↓] Go.wp_at_zero Go.wp_at_succ
def digA (d : Bs) : List Nat := d.flatMap fun x => [x.toNat / 16, x.toNat % 16]
def sumD (l : List Nat) : Nat := (l.map fun x => 15 - x).sum
def digs (d : Bs) : List Nat := digA d ++ [sumD (digA d) / 256, sumD (digA d) / 16 % 16, sumD (digA d) % 16]
theorem digA_len (d : Bs) : (digA d).length = 2 * d.length := by
  induction d with
  | nil => rfl
  | cons x d ih => simp only [digA, List.flatMap_cons, List.length_append, List.length_cons, List.length_nil] at ih ⊢; omega
theorem digs_len (d : Bs) : (digs d).length = 2 * d.length + 3 := by simp [digs, digA_len]
theorem digA_lt (d : Bs) : ∀ x ∈ digA d, x < 16 := by
  intro x hx
  obtain ⟨y, _, hy⟩ := List.mem_flatMap.1 hx
  have := y.toNat_lt
  simp only [List.mem_cons, List.not_mem_nil, or_false] at hy
  omega
theorem sumD_le (l : List Nat) : sumD l ≤ 15 * l.length := by
  induction l with
  | nil => simp [sumD]
  | cons x l ih => simp only [sumD, List.map_cons, List.sum_cons, List.length_cons] at ih ⊢; omega
theorem sumD_snoc (l : List Nat) (x : Nat) : sumD (l ++ [x]) = sumD l + (15 - x) := by simp [sumD]
theorem digs_lt (d : Bs) (h : d.length = 16) : ∀ x ∈ digs d, x < 16 := by
  intro x hx
  have h1 := sumD_le (digA d)
  rw [digA_len, h] at h1
  rcases List.mem_append.1 hx with hx | hx
  · exact digA_lt d x hx
  · simp only [List.mem_cons, List.not_mem_nil, or_false] at hx
    omega
theorem digA_take (d : Bs) (k : Nat) (h : k < d.length) : digA (d.take (k + 1)) = digA (d.take k) ++ [(d.getD k 0).toNat / 16] ++ [(d.getD k 0).toNat % 16] := by
  rw [List.take_succ_eq_append_getElem h, digA, List.flatMap_append, List.getD_eq_getElem?_getD, List.getElem?_eq_getElem h]
  simp [digA]
/-- The cells of a list of numbers. -/
def vi (l : List Nat) : List Value := l.map fun (n : Nat) => .int .i64 (n : Int)
theorem vi_len (l : List Nat) : (vi l).length = l.length := by simp [vi]
theorem vi_append (a b : List Nat) : vi (a ++ b) = vi a ++ vi b := by simp [vi]
theorem vi_one (l : List Nat) : ∀ u ∈ vi l, u.oneCell' = true := by
  intro u hu
  obtain ⟨x, _, rfl⟩ := List.mem_map.1 hu
  rfl
def SeesI (w : World) (B : Nat) (v : Value) (l : List Nat) : Prop := Sees w B v 1 l.length (vi l)
def OwnI (w : World) (base : Nat) (v : Value) (l : List Nat) : Prop := w.ownsRow base 3 1 v l.length (vi l)
theorem OwnI.sees {w : World} {base : Nat} {v : Value} {l : List Nat} (h : OwnI w base v l) : SeesI w w.heap.size v l := Sees.of_own h
theorem OwnI.below {w w' : World} {base : Nat} {v : Value} {l : List Nat} (h : OwnI w base v l) (hb : Below w.heap.size w w') : OwnI w' base v l := own_below h hb
theorem OwnI.mono {w : World} {base base' : Nat} {v : Value} {l : List Nat} (h : OwnI w base v l) (hb : base' ≤ base) : OwnI w base' v l := by
  refine ⟨h.1, ?_⟩
  rcases h.2 with h | ⟨g, cap, cur, h1, h2, h3⟩
  · exact .inl h
  · exact .inr ⟨g, cap, cur, h1, by omega, h3⟩
theorem SeesI.mk_ {w : World} {B : Nat} {v : Value} {l : List Nat} (h : SeesI w B v l) : ∃ A c, v = .slice A l.length c ∧ l.length ≤ c ∧ c ≤ maxLen := Sees.mk_ h
theorem SeesI.at_ {w : World} {B : Nat} {A : Option Addr} {n c : Nat} {l : List Nat} (h : SeesI w B (.slice A n c) l) (hn : 0 < l.length) : ∃ b o, A = some ⟨b, o, none⟩ ∧ b < B ∧ ∀ j, j < l.length → w.cell? ⟨b, o + j, none⟩ = some (.int .i64 ((l.getD j 0 : Nat) : Int)) := by
  obtain ⟨_, A', c', hv, h1, h2, h3⟩ := h
  injection hv with e1 e2 e3
  subst e1
  obtain ⟨b, o, e, hb, hc⟩ := h3 hn
  refine ⟨b, o, e, hb, fun j hj => hc j _ ?_⟩
  rw [vi, List.getElem?_map, List.getElem?_eq_getElem hj, Option.map_some, List.getD_eq_getElem?_getD, List.getElem?_eq_getElem hj]
  rfl
theorem below_grownI {w w' : World} {base : Nat} {v : Value} {l : List Nat} (h : OwnI w base v l) (hg : w.grownBy w' v.ownBlock) (hb : base ≤ w.heap.size) : Below base w w' := by
  refine ⟨hg.os, hg.tape, hg.output, hg.size, fun k hk => hg.block k (by omega) (fun e => ?_)⟩
  have := (h.lt k e.symm).1
  omega
theorem int_info : (Try.prog.info? 3).map (fun i => (i.zero, i.size, i.bytes)) = some (some (.int .i64 0), 1, 8) := by kernel_rfl
theorem wpList_appI {ops : Array Oper} {rest : List Oper} {o : Oper} {a : Act} {w : World} {Q : Exit → Act → World → Prop} (hgd : Region.wanted o (yielded ops a.tmps) = true) (s x : Operand)
    (ho : o.op = .call { callee := .builtin .append, args := #[s, x], argTypes := #[100, 100] })
    (base : Nat) (v : Value) (l : List Nat) (hs : a.eval s = v) (hown : OwnI w base v l) (B : Nat) (u : Value) (m : List Nat) (hx : a.eval x = u) (hr : SeesI w B u m)
    (hlen : l.length + m.length ≤ 1099511627776) (hbase : base ≤ w.heap.size)
    (h : ∀ v' w', OwnI w' base v' (l ++ m) → Below base w w' → wpList Try.prog ops Q rest (a.put o.dst v') w') : wpList Try.prog ops Q (o :: rest) a w := by
  obtain ⟨i, hi, hz, hsz, hby⟩ := info_parts int_info
  refine wpList_append_sees hgd s x 100 ho base 3 i (.int .i64 0) 1 8 Try.underlying100 hi hz hsz hby rfl (by omega) v l.length (vi l) hs hown B u m.length (vi m) hx hr (vi_one m) (by unfold maxLen; omega) (by omega) hbase ?_
  intro v' w' h1 h2 h3
  refine h v' w' ?_ (below_grownI hown h2 hbase)
  unfold OwnI
  rw [vi_append, List.length_append]
  exact h1
theorem lit_ints (w : World) (l : List Nat) (hl : l.length ≤ 16) : SeesI (w.alloc (.cells (vi l).toArray 3)) (w.heap.size + 1) (.slice (some ⟨w.heap.size, 0, none⟩) l.length l.length) l := by
  refine ⟨by rw [vi_len, Nat.mul_one], _, l.length, rfl, Nat.le_refl _, by unfold maxLen; omega, fun _ => ⟨w.heap.size, 0, rfl, by omega, fun j u hj => ?_⟩⟩
  have := (Box.new w 3 (vi l)).cell j
  rw [Nat.zero_add, this, hj]
theorem lit_int1 (w : World) (p : Nat) : SeesI (w.alloc (.cells #[.int .i64 (p : Int)] 3)) (w.heap.size + 1) (.slice (some ⟨w.heap.size, 0, none⟩) 1 1) [p] := lit_ints w [p] (by simp)
theorem make_35 (W : World) : (Instr.makeSlice 100 (.int .i64 0) (.int .i64 35)).run Try.prog W = .ok (.slice (some ⟨W.heap.size, 0, none⟩) 0 35) (W.alloc (.cells (madeCells #[.int .i64 0] 35) 3)) := by
  obtain ⟨i, hi, hz, hs, hb⟩ := info_parts int_info
  have h := run_make (P := Try.prog) W 100 3 i (.int .i64 0) Try.underlying100 hi hz .i64 .i64 0 35 (by omega) (by omega) (by rw [hb]; omega) (by omega)
  rw [h, hs]
  rfl
theorem and15_u8 : ∀ n : Fin 256, bits .and .u8 (n.val : Int) 15 = ((n.val % 16 : Nat) : Int) := by decide +kernel
theorem and15_i64 : ∀ n : Fin 512, bits .and .i64 (n.val : Int) 15 = ((n.val % 16 : Nat) : Int) := by decide +kernel
theorem and_u8 (x : UInt8) : bits .and .u8 (x.toNat : Int) 15 = ((x.toNat % 16 : Nat) : Int) := and15_u8 ⟨x.toNat, x.toNat_lt⟩
theorem and_i64 (n : Nat) (hn : n < 512) : bits .and .i64 (n : Int) 15 = ((n % 16 : Nat) : Int) := and15_i64 ⟨n, hn⟩
def DigPost (d : Bs) (w : World) (e : Ending) (w' : World) : Prop :=
  ∃ v, e = .returned (.tuple #[v, .int .i64 0]) ∧ OwnI w' w.heap.size v (digs d) ∧ Below w.heap.size w w'
set_option maxRecDepth 100000 in
theorem digits_any (B : Nat) (u : Value) (d : Bs) (w : World) (hu : SeesB w B u d) (hB : B ≤ w.heap.size) (hl : d.length = 16) :
    Calls Try.prog 62 #[u] w (DigPost d w) := by
  obtain ⟨A, c, rfl, hc1, hc2⟩ := hu.mk_
  rw [hl] at hc1 hu ⊢
  have hmk := make_35
  obtain ⟨b, o, rfl, hbB, hcell⟩ := hu.at_ (by omega)
  replace hl := Lib.hid hl
  replace hcell := Lib.hid hcell
  replace hbB := Lib.hid hbB
  clear hu
  go_enter Try.func62, Try.ntmps62
  go_wp2_with fail
  refine wp_fresh (fun W => OwnI W w.heap.size (.slice (some ⟨w.heap.size, 0, none⟩) 0 35) [] ∧ Below w.heap.size w W) ⟨World.ownsRow_made w _ 35 (Nat.le_refl _) (by unfold maxLen; omega) (size_madeCells _ _), balloc w _⟩ ?_
  rintro W0 ⟨ho, hb⟩
  replace ho := Lib.hid ho
  replace hb := Lib.hid hb
  clear hmk
  go_loopw [4, 5, 7, 9, 17, 28] (fun v s _ _ t _ wr => ∃ k : Nat, k ≤ 16 ∧ t = .int .i64 k ∧ Hid (OwnI wr w.heap.size v (digA (d.take k))) ∧ s = .int .i64 ((sumD (digA (d.take k)) : Nat) : Int) ∧ Hid (Below w.heap.size w wr)) (fun _ _ _ _ t _ _ => 16 - (intOf t).toNat)
  case atStart => exact ⟨0, by omega, rfl, ho, rfl, hb⟩
  case round =>
    clear ho hb
    obtain ⟨k, hk, rfl, ho, rfl, hb⟩ := hrel
    by_cases hlt : k < 16
    · have x0 := (hb.out.cell (p := ⟨b, o + k, none⟩) (Nat.lt_of_lt_of_le hbB.out hB)).trans (hcell.out k (by rw [hl.out]; exact hlt))
      have hst := Lib.hid (digA_take d k (by rw [hl.out]; exact hlt))
      have hsl := sumD_le (digA (d.take k))
      rw [digA_len, List.length_take] at hsl
      have hal : Hid ((digA (d.take k)).length ≤ 32) := by show _ ≤ _; rw [digA_len, List.length_take]; omega
      generalize digA (d.take k) = acc at *
      generalize d.getD k 0 = x at *
      have hx := x.toNat_lt
      unfold byV at x0
      have ha := and_u8 x
      have i0 : (0 : Int) ≤ (k : Int) := by omega
      have i1 : (k : Int) < 16 := by omega
      go_wp2_with fail
      rw [show ((x.toNat : Int) / 16) = ((x.toNat / 16 : Nat) : Int) from rfl, show ((x.toNat : Int) % 16) = ((x.toNat % 16 : Nat) : Int) from rfl]
      obtain ⟨wo, rfl⟩ : ∃ wo : World, wo = wr := ⟨_, rfl⟩
      have hp : x.toNat / 16 < 16 := by omega
      have hq : x.toNat % 16 < 16 := by omega
      generalize x.toNat / 16 = p at *
      generalize x.toNat % 16 = q at *
      have e0 : ∀ W, (Instr.index 114 (.agg #[.int .i64 (p : Int), .int .i64 (q : Int)]) (.int .i64 0)).run Try.prog W = .ok (.int .i64 (p : Int)) W := fun _ => by kernel_rfl
      have e1 : ∀ W, (Instr.index 114 (.agg #[.int .i64 (p : Int), .int .i64 (q : Int)]) (.int .i64 1)).run Try.prog W = .ok (.int .i64 (q : Int)) W := fun _ => by kernel_rfl
      have hs1 := Lib.hid (sumD_snoc acc p)
      have hs2 := Lib.hid (sumD_snoc (acc ++ [p]) q)
      clear ha x0 hx
      go_loopw [4, 5, 9, 28] (fun v s _ t wr => ∃ j : Nat, j ≤ 2 ∧ t = .int .i64 j ∧ Hid (OwnI wr w.heap.size v (acc ++ [p, q].take j)) ∧ s = .int .i64 ((sumD (acc ++ [p, q].take j) : Nat) : Int) ∧ Hid (Below w.heap.size w wr)) (fun _ _ _ t _ => 2 - (intOf t).toNat)
      case atStart => exact ⟨0, by omega, rfl, by rw [List.take_zero, List.append_nil]; exact ho, by rw [List.take_zero, List.append_nil], hb⟩
      case round =>
        clear ho hb
        obtain ⟨j, hj, rfl, ho, rfl, hb⟩ := hrel
        obtain ⟨Ar, cr, rfl, -, -⟩ := ho.out.sees.mk_
        rcases (by omega : j = 0 ∨ j = 1 ∨ j = 2) with rfl | rfl | rfl
        · rw [List.take_zero, List.append_nil] at ho ⊢
          have hal2 := balloc wr (.cells #[.int .i64 (p : Int)] 3)
          have ho2 := Lib.hid (ho.out.below hal2)
          have hcl := Lib.hid (lit_int1 wr p)
          have hb2 := Lib.hid (hb.out.trans (hal2.mono hb.out.size))
          clear ho hb hal2
          go_wp2_with (at_builtin; refine wpList_appI (by rfl) _ _ rfl w.heap.size _ acc rfl ho2.out _ _ [p] rfl hcl.out (by have := hal.out; simp; omega) hb2.out.size ?_)
          intro v' w' hW2 hb4
          have hW2 := Lib.hid hW2
          have hb4 := Lib.hid (hb2.out.trans hb4)
          go_wp2_with fail
          go_roundw
          case rel => exact ⟨1, by omega, by go_num, hW2.out, by rw [show acc ++ List.take 1 [p, q] = acc ++ [p] from rfl, hs1.out]; go_num, hb4⟩
          case measure => simp [intOf]
        · have hal2 := balloc wr (.cells #[.int .i64 (q : Int)] 3)
          have ho2 := Lib.hid (ho.out.below hal2)
          have hcl := Lib.hid (lit_int1 wr q)
          have hb2 := Lib.hid (hb.out.trans (hal2.mono hb.out.size))
          rw [show acc ++ List.take 1 [p, q] = acc ++ [p] from rfl] at ho2 ⊢
          rw [hs1.out]
          have hl1 : (acc ++ List.take 1 [p, q]).length = acc.length + 1 := by simp
          clear ho hb hal2
          go_wp2_with (at_builtin; refine wpList_appI (by rfl) _ _ rfl w.heap.size _ (acc ++ [p]) rfl ho2.out _ _ [q] rfl hcl.out (by have := hal.out; simp; omega) hb2.out.size ?_)
          intro v' w' hW2 hb4
          have hW2 := Lib.hid hW2
          have hb4 := Lib.hid (hb2.out.trans hb4)
          go_wp2_with fail
          go_roundw
          case rel => exact ⟨2, by omega, by go_num, by have := hW2.out; show OwnI _ _ _ _; simpa using this, by rw [show acc ++ List.take 2 [p, q] = acc ++ [p] ++ [q] by simp, hs2.out, hs1.out]; go_num, hb4⟩
          case measure => simp [intOf]
        · rw [show acc ++ List.take 2 [p, q] = acc ++ [p] ++ [q] by simp, ← hst.out] at ho ⊢
          go_wp2_with fail
          go_roundw
          case rel => exact ⟨k + 1, by omega, by go_num, ho, rfl, hb⟩
          case measure => simp [intOf]; omega
    · have hk16 : k = 16 := by omega
      have hds : Hid (digs d = digA d ++ [sumD (digA d) / 256 % 16, sumD (digA d) / 16 % 16, sumD (digA d) % 16]) := by
        have h1 := sumD_le (digA d)
        rw [digA_len, hl.out] at h1
        show _ = _
        rw [digs, Nat.mod_eq_of_lt (a := sumD (digA d) / 256) (by omega)]
      have hS := sumD_le (digA d)
      rw [digA_len, hl.out] at hS
      have hal : Hid ((digA d).length ≤ 32) := by show _ ≤ _; rw [digA_len, hl.out]; omega
      rw [hk16, List.take_of_length_le (by rw [hl.out]; omega)] at ho
      rw [List.take_of_length_le (by rw [hl.out]; omega)]
      generalize digA d = acc at *
      generalize hSS : sumD acc = S at *
      replace hSS := Lib.hid hSS
      replace hk16 := Lib.hid hk16
      have s2 : bits .and .i64 ((S : Int) / 256) 15 = ((S / 256 % 16 : Nat) : Int) := and_i64 (S / 256) (by omega)
      have s1 : bits .and .i64 ((S : Int) / 16) 15 = ((S / 16 % 16 : Nat) : Int) := and_i64 (S / 16) (by omega)
      have s0 := and_i64 S (by omega)
      generalize S / 256 % 16 = a2 at *
      generalize S / 16 % 16 = a1 at *
      generalize S % 16 = a0 at *
      go_wp2_with fail
      obtain ⟨wo, rfl⟩ : ∃ wo : World, wo = wr := ⟨_, rfl⟩
      go_loopw [4, 10] (fun v t wr => ∃ j : Nat, j ≤ 3 ∧ t = .int .i64 (2 - (j : Int)) ∧ Hid (OwnI wr w.heap.size v (acc ++ [a2, a1, a0].take j)) ∧ Hid (Below w.heap.size w wr)) (fun _ t _ => (1 + intOf t).toNat)
      case atStart => exact ⟨0, by omega, rfl, by rw [List.take_zero, List.append_nil]; exact ho, hb⟩
      case round =>
        clear ho hb
        obtain ⟨j, hj, rfl, ho, hb⟩ := hrel
        obtain ⟨Ar, cr, rfl, -, -⟩ := ho.out.sees.mk_
        rcases (by omega : j = 0 ∨ j = 1 ∨ j = 2 ∨ j = 3) with rfl | rfl | rfl | rfl
        · rw [List.take_zero, List.append_nil] at ho ⊢
          have hal2 := balloc wr (.cells #[.int .i64 (a2 : Int)] 3)
          have ho2 := Lib.hid (ho.out.below hal2)
          have hcl := Lib.hid (lit_int1 wr a2)
          have hb2 := Lib.hid (hb.out.trans (hal2.mono hb.out.size))
          clear ho hb hal2
          go_wp2_with (at_builtin; refine wpList_appI (by rfl) _ _ rfl w.heap.size _ acc rfl ho2.out _ _ [a2] rfl hcl.out (by have := hal.out; simp; omega) hb2.out.size ?_)
          intro v' w' hW2 hb4
          have hW2 := Lib.hid hW2
          have hb4 := Lib.hid (hb2.out.trans hb4)
          go_wp2_with fail
          go_roundw
          case rel => exact ⟨1, by omega, by simp, by have := hW2.out; show OwnI _ _ _ _; simpa using this, hb4⟩
          case measure => simp [intOf]
        · rw [show acc ++ List.take 1 [a2, a1, a0] = acc ++ [a2] from rfl] at ho ⊢
          have hal2 := balloc wr (.cells #[.int .i64 (a1 : Int)] 3)
          have ho2 := Lib.hid (ho.out.below hal2)
          have hcl := Lib.hid (lit_int1 wr a1)
          have hb2 := Lib.hid (hb.out.trans (hal2.mono hb.out.size))
          clear ho hb hal2
          go_wp2_with (at_builtin; refine wpList_appI (by rfl) _ _ rfl w.heap.size _ (acc ++ [a2]) rfl ho2.out _ _ [a1] rfl hcl.out (by have := hal.out; simp; omega) hb2.out.size ?_)
          intro v' w' hW2 hb4
          have hW2 := Lib.hid hW2
          have hb4 := Lib.hid (hb2.out.trans hb4)
          go_wp2_with fail
          go_roundw
          case rel => exact ⟨2, by omega, by simp, by have := hW2.out; show OwnI _ _ _ _; simpa using this, hb4⟩
          case measure => simp [intOf]
        · rw [show acc ++ List.take 2 [a2, a1, a0] = acc ++ [a2, a1] from rfl] at ho ⊢
          have hal2 := balloc wr (.cells #[.int .i64 (a0 : Int)] 3)
          have ho2 := Lib.hid (ho.out.below hal2)
          have hcl := Lib.hid (lit_int1 wr a0)
          have hb2 := Lib.hid (hb.out.trans (hal2.mono hb.out.size))
          clear ho hb hal2
          go_wp2_with (at_builtin; refine wpList_appI (by rfl) _ _ rfl w.heap.size _ (acc ++ [a2, a1]) rfl ho2.out _ _ [a0] rfl hcl.out (by have := hal.out; simp; omega) hb2.out.size ?_)
          intro v' w' hW2 hb4
          have hW2 := Lib.hid hW2
          have hb4 := Lib.hid (hb2.out.trans hb4)
          go_wp2_with fail
          go_roundw
          case rel => exact ⟨3, by omega, by simp, by have := hW2.out; show OwnI _ _ _ _; simpa using this, hb4⟩
          case measure => simp [intOf]
        · rw [show acc ++ List.take 3 [a2, a1, a0] = acc ++ [a2, a1, a0] from rfl] at ho ⊢
          generalize acc ++ [a2, a1, a0] = row at *
          go_wp2_with fail
          go_returns
          exact ⟨_, rfl, by rw [hds.out]; exact ho.out, hb.out⟩
end
section
set_option linter.unusedVariables false
/-- The path from a leaf to the root. -/
def pathG (hs : List Bs) (i : Nat) : List Bs :=
  if h : 2 ≤ hs.length then
    if i < splitN hs.length then pathG (hs.take (splitN hs.length)) i ++ [rootG (hs.drop (splitN hs.length))]
    else pathG (hs.drop (splitN hs.length)) (i - splitN hs.length) ++ [rootG (hs.take (splitN hs.length))]
  else []
termination_by hs.length
decreasing_by
  · have := splitN_lt hs.length h; rw [List.length_take]; omega
  · have := splitN_lt hs.length h; rw [List.length_drop]; omega
/-- The root that a path gives, and how much of the path it takes. -/
def climbG (n i : Nat) (at_ : Bs) (p : List Bs) : Option (Bs × Nat) :=
  if h : 2 ≤ n then
    if i < splitN n then
      match climbG (splitN n) i at_ p with
      | none => none
      | some (r, used) => if used < p.length then some (nodeH r (p.getD used []), used + 1) else none
    else
      match climbG (n - splitN n) (i - splitN n) at_ p with
      | none => none
      | some (r, used) => if used < p.length then some (nodeH (p.getD used []) r, used + 1) else none
  else some (at_, 0)
termination_by n
decreasing_by
  · have := splitN_lt n h; omega
  · have := splitN_lt n h; omega
theorem pathG_one (hs : List Bs) (i : Nat) (h : ¬ 2 ≤ hs.length) : pathG hs i = [] := by rw [pathG, dif_neg h]
theorem pathG_left (hs : List Bs) (i : Nat) (h : 2 ≤ hs.length) (hi : i < splitN hs.length) : pathG hs i = pathG (hs.take (splitN hs.length)) i ++ [rootG (hs.drop (splitN hs.length))] := by rw [pathG, dif_pos h, if_pos hi]
theorem pathG_right (hs : List Bs) (i : Nat) (h : 2 ≤ hs.length) (hi : ¬ i < splitN hs.length) : pathG hs i = pathG (hs.drop (splitN hs.length)) (i - splitN hs.length) ++ [rootG (hs.take (splitN hs.length))] := by rw [pathG, dif_pos h, if_neg hi]
theorem climbG_one (n i : Nat) (a : Bs) (p : List Bs) (h : ¬ 2 ≤ n) : climbG n i a p = some (a, 0) := by rw [climbG, dif_neg h]
theorem climbG_left (n i : Nat) (a : Bs) (p : List Bs) (h : 2 ≤ n) (hi : i < splitN n) : climbG n i a p = match climbG (splitN n) i a p with
    | none => none
    | some (r, used) => if used < p.length then some (nodeH r (p.getD used []), used + 1) else none := by rw [climbG, dif_pos h, if_pos hi]
theorem climbG_right (n i : Nat) (a : Bs) (p : List Bs) (h : 2 ≤ n) (hi : ¬ i < splitN n) : climbG n i a p = match climbG (n - splitN n) (i - splitN n) a p with
    | none => none
    | some (r, used) => if used < p.length then some (nodeH (p.getD used []) r, used + 1) else none := by rw [climbG, dif_pos h, if_neg hi]
theorem climbG_used (m : Nat) : ∀ (n i : Nat) (a : Bs) (p : List Bs) (r : Bs) (u : Nat), n ≤ m → climbG n i a p = some (r, u) → u ≤ p.length := by
  induction m with
  | zero =>
    intro n i a p r u hn h
    rw [climbG_one _ _ _ _ (by omega)] at h
    cases h; omega
  | succ m ih =>
    intro n i a p r u hn h
    by_cases h2 : 2 ≤ n
    · have hs := splitN_lt n h2
      by_cases hi : i < splitN n
      · rw [climbG_left _ _ _ _ h2 hi] at h
        split at h
        · cases h
        · split at h
          · cases h; omega
          · cases h
      · rw [climbG_right _ _ _ _ h2 hi] at h
        split at h
        · cases h
        · split at h
          · cases h; omega
          · cases h
    · rw [climbG_one _ _ _ _ h2] at h
      cases h; omega
theorem climbG_len (m : Nat) : ∀ (n i : Nat) (a : Bs) (p : List Bs) (r : Bs) (u : Nat), n ≤ m → climbG n i a p = some (r, u) → r = a ∨ r.length = 32 := by
  induction m with
  | zero =>
    intro n i a p r u hn h
    rw [climbG_one _ _ _ _ (by omega)] at h
    cases h; exact .inl rfl
  | succ m ih =>
    intro n i a p r u hn h
    by_cases h2 : 2 ≤ n
    · have hs := splitN_lt n h2
      by_cases hi : i < splitN n
      · rw [climbG_left _ _ _ _ h2 hi] at h
        split at h
        · cases h
        · split at h
          · cases h; exact .inr (sha_len _)
          · cases h
      · rw [climbG_right _ _ _ _ h2 hi] at h
        split at h
        · cases h
        · split at h
          · cases h; exact .inr (sha_len _)
          · cases h
    · rw [climbG_one _ _ _ _ h2] at h
      cases h; exact .inl rfl
/-- The path of a leaf leads to the root, whatever stands behind it. -/
theorem climb_path (m : Nat) : ∀ (hs : List Bs) (i : Nat) (more : List Bs), hs.length ≤ m → i < hs.length →
    climbG hs.length i (hs.getD i []) (pathG hs i ++ more) = some (rootG hs, (pathG hs i).length) := by
  induction m with
  | zero => intro hs i more h hi; omega
  | succ m ih =>
    intro hs i more hm hi
    by_cases h2 : 2 ≤ hs.length
    · have hsp := splitN_lt hs.length h2
      by_cases hk : i < splitN hs.length
      · have h1 := ih (hs.take (splitN hs.length)) i ([rootG (hs.drop (splitN hs.length))] ++ more) (by rw [List.length_take]; omega) (by rw [List.length_take]; omega)
        rw [List.length_take, Nat.min_eq_left (by omega)] at h1
        rw [show (hs.take (splitN hs.length)).getD i [] = hs.getD i [] from by rw [List.getD_eq_getElem?_getD, List.getElem?_take, if_pos hk, ← List.getD_eq_getElem?_getD]] at h1
        rw [pathG_left hs i h2 hk, climbG_left _ _ _ _ h2 hk, List.append_assoc, h1]
        simp only
        rw [if_pos (by simp), rootG_two hs h2]
        simp
      · have h1 := ih (hs.drop (splitN hs.length)) (i - splitN hs.length) ([rootG (hs.take (splitN hs.length))] ++ more) (by rw [List.length_drop]; omega) (by rw [List.length_drop]; omega)
        rw [List.length_drop] at h1
        rw [show (hs.drop (splitN hs.length)).getD (i - splitN hs.length) [] = hs.getD i [] from by rw [List.getD_eq_getElem?_getD, List.getElem?_drop, show splitN hs.length + (i - splitN hs.length) = i from by omega, ← List.getD_eq_getElem?_getD]] at h1
        rw [pathG_right hs i h2 hk, climbG_right _ _ _ _ h2 hk, List.append_assoc, h1]
        simp only
        rw [if_pos (by simp), rootG_two hs h2]
        simp
    · rw [pathG_one _ _ h2, climbG_one _ _ _ _ h2]
      match hs, hi, h2 with
      | [x], hi, _ =>
        obtain rfl : i = 0 := by simp at hi; omega
        rw [rootG_one]; rfl
      | x :: y :: l, _, h2 => exact absurd (by simp) h2
theorem pathG_el (m : Nat) : ∀ (hs : List Bs) (i : Nat), hs.length ≤ m → (∀ l ∈ hs, l.length = 32) → ∀ x ∈ pathG hs i, x.length = 32 := by
  induction m with
  | zero => intro hs i hm hl x hx; rw [pathG_one _ _ (by omega)] at hx; cases hx
  | succ m ih =>
    intro hs i hm hl x hx
    by_cases h2 : 2 ≤ hs.length
    · have hsp := splitN_lt hs.length h2
      have l1 : ∀ l ∈ hs.take (splitN hs.length), l.length = 32 := fun l h => hl l (List.mem_of_mem_take h)
      have l2 : ∀ l ∈ hs.drop (splitN hs.length), l.length = 32 := fun l h => hl l (List.mem_of_mem_drop h)
      by_cases hk : i < splitN hs.length
      · rw [pathG_left hs i h2 hk] at hx
        rcases List.mem_append.1 hx with hx | hx
        · exact ih _ i (by rw [List.length_take]; omega) l1 x hx
        · obtain rfl := List.mem_singleton.1 hx; exact rootG_len _ l2
      · rw [pathG_right hs i h2 hk] at hx
        rcases List.mem_append.1 hx with hx | hx
        · exact ih _ _ (by rw [List.length_drop]; omega) l2 x hx
        · obtain rfl := List.mem_singleton.1 hx; exact rootG_len _ l1
    · rw [pathG_one _ _ h2] at hx; cases hx
theorem pathG_short (hs : List Bs) (i : Nat) : (pathG hs i).length ≤ hs.length := by
  have : ∀ (m : Nat) (hs : List Bs) (i : Nat), hs.length ≤ m → (pathG hs i).length ≤ hs.length := by
    intro m
    induction m with
    | zero => intro hs i hm; rw [pathG_one _ _ (by omega)]; exact Nat.zero_le _
    | succ m ih =>
      intro hs i hm
      by_cases h2 : 2 ≤ hs.length
      · have hsp := splitN_lt hs.length h2
        by_cases hk : i < splitN hs.length
        · have h1 := ih (hs.take (splitN hs.length)) i (by rw [List.length_take]; omega)
          rw [List.length_take] at h1
          rw [pathG_left hs i h2 hk, List.length_append, List.length_singleton]; omega
        · have h1 := ih (hs.drop (splitN hs.length)) (i - splitN hs.length) (by rw [List.length_drop]; omega)
          rw [List.length_drop] at h1
          rw [pathG_right hs i h2 hk, List.length_append, List.length_singleton]; omega
      · rw [pathG_one _ _ h2]; exact Nat.zero_le _
  exact this _ hs i (Nat.le_refl _)
theorem splitN_pow (h : Nat) : splitN (2 ^ (h + 1)) = 2 ^ h := by
  have h1 : 1 ≤ 2 ^ h := Nat.pow_pos (by omega)
  exact splitN_of _ _ (by rw [Nat.pow_succ]; omega) (by rw [Nat.pow_succ]; omega) (by rw [Nat.pow_succ]; omega)
theorem pathG_len (h : Nat) : ∀ (hs : List Bs) (i : Nat), hs.length = 2 ^ h → (pathG hs i).length = h := by
  induction h with
  | zero => intro hs i hl; rw [pathG_one _ _ (by omega)]; rfl
  | succ h ih =>
    intro hs i hl
    have h1 : 1 ≤ 2 ^ h := Nat.pow_pos (by omega)
    have h2 : 2 ≤ hs.length := by rw [hl, Nat.pow_succ]; omega
    have hsp : splitN hs.length = 2 ^ h := by rw [hl, splitN_pow]
    by_cases hk : i < splitN hs.length
    · rw [pathG_left hs i h2 hk, List.length_append, ih _ _ (by rw [List.length_take, hsp, hl, Nat.pow_succ]; omega)]; rfl
    · rw [pathG_right hs i h2 hk, List.length_append, ih _ _ (by rw [List.length_drop, hsp, hl, Nat.pow_succ]; omega)]; rfl
/-- One-time signatures. -/
def signL (seed : Bs) (i : Nat) (d : Bs) : List Bs := (List.range 35).map fun c => chainH ((digs d).getD c 0) (otBegin seed i c)
def recEnds (d : Bs) (sig : List Bs) : Nat → Bs
  | 0 => []
  | n + 1 => recEnds d sig n ++ chainH (15 - (digs d).getD n 0) (sig.getD n [])
def recG (d : Bs) (sig : List Bs) : Bs := short (recEnds d sig 35)
theorem signL_len (seed : Bs) (i : Nat) (d : Bs) : (signL seed i d).length = 35 := by simp [signL]
theorem signL_get (seed : Bs) (i : Nat) (d : Bs) (c : Nat) (h : c < 35) : (signL seed i d).getD c [] = chainH ((digs d).getD c 0) (otBegin seed i c) := by
  rw [signL, List.getD_eq_getElem?_getD, List.getElem?_map, List.getElem?_range h]; rfl
theorem signL_el (seed : Bs) (i : Nat) (d : Bs) : ∀ x ∈ signL seed i d, x.length = 16 := by
  intro x hx
  obtain ⟨c, _, rfl⟩ := List.mem_map.1 hx
  exact chainH_len _ _ (short_len _)
theorem digs_get (d : Bs) (h : d.length = 16) (c : Nat) (hc : c < 35) : (digs d).getD c 0 < 16 := by
  have hl : c < (digs d).length := by rw [digs_len]; omega
  rw [List.getD_eq_getElem?_getD, List.getElem?_eq_getElem hl]
  exact digs_lt d h _ (List.getElem_mem hl)
theorem rec_sign (seed : Bs) (i : Nat) (d : Bs) (h : d.length = 16) : recG d (signL seed i d) = otPublic seed i := by
  have : ∀ n, n ≤ 35 → recEnds d (signL seed i d) n = otEnds seed i n := by
    intro n
    induction n with
    | zero => intro _; rfl
    | succ n ih =>
      intro hn
      have := digs_get d h n (by omega)
      rw [recEnds, otEnds, ih (by omega), signL_get _ _ _ _ (by omega), chainH_add, show (digs d).getD n 0 + (15 - (digs d).getD n 0) = 15 from by omega]
  rw [recG, otPublic, this 35 (Nat.le_refl _)]
/-- Signatures. -/
def hashesG (seed : Bs) (h : Nat) : List Bs := (leavesL seed (2 ^ h)).map leafH
def keyG (seed : Bs) (h : Nat) : Bs := rootG (hashesG seed h)
def digG (pub : Bs) (i : Nat) (m : Bs) : Bs := short (pub ++ putB 4 i ++ m)
def sigG (seed : Bs) (h i : Nat) (m : Bs) : Bs :=
  [UInt8.ofNat h] ++ putB 4 i ++ (signL seed i (digG (keyG seed h) i m)).flatten ++ (pathG (hashesG seed h) i).flatten
/-- The parts of so many bytes. -/
def cutL (size : Nat) : Nat → Bs → List Bs
  | 0, _ => []
  | n + 1, b => b.take size :: cutL size n (b.drop size)
theorem cutL_len (size n : Nat) (b : Bs) : (cutL size n b).length = n := by
  induction n generalizing b with
  | zero => rfl
  | succ n ih => rw [cutL, List.length_cons, ih]
theorem cutL_el (size n : Nat) : ∀ (b : Bs), b.length = size * n → ∀ x ∈ cutL size n b, x.length = size := by
  induction n with
  | zero => intro b hb x hx; cases hx
  | succ n ih =>
    intro b hb x hx
    rw [Nat.mul_succ] at hb
    rcases List.mem_cons.1 hx with rfl | hx
    · rw [List.length_take]; omega
    · exact ih (b.drop size) (by rw [List.length_drop]; omega) x hx
theorem cutL_flat (size : Nat) (ls : List Bs) (more : Bs) (h : ∀ x ∈ ls, x.length = size) : cutL size ls.length (ls.flatten ++ more) = ls := by
  induction ls with
  | nil => rfl
  | cons x ls ih =>
    have hx : x.length = size := h x (by simp)
    rw [List.length_cons, cutL, List.flatten_cons, List.append_assoc, List.take_append_of_le_length (by omega), List.take_of_length_le (by omega), List.drop_append_of_le_length (by omega), List.drop_of_length_le (by omega), List.nil_append, ih (fun y hy => h y (by simp [hy]))]
theorem flat_len (size : Nat) (ls : List Bs) (h : ∀ x ∈ ls, x.length = size) : ls.flatten.length = size * ls.length := by
  induction ls with
  | nil => rfl
  | cons x ls ih => rw [List.flatten_cons, List.length_append, ih (fun y hy => h y (by simp [hy])), h x (by simp), List.length_cons, Nat.mul_succ, Nat.add_comm]
structure Sig where
  height : Nat
  index : Nat
  elements : List Bs
  path : List Bs
/-- The parts of a signature. -/
def partsG (b : Bs) : Option Sig :=
  if b.length < 565 then none
  else if 6 < (b.getD 0 0).toNat ∨ 2 ^ (b.getD 0 0).toNat ≤ getB ((b.drop 1).take 4) ∨ b.length ≠ 565 + 32 * (b.getD 0 0).toNat then none
  else some ⟨(b.getD 0 0).toNat, getB ((b.drop 1).take 4), cutL 16 35 (b.drop 5), cutL 32 (b.getD 0 0).toNat (b.drop 565)⟩
def checkG (root : Bs) (n i : Nat) (leaf : Bs) (p : List Bs) : Bool :=
  match climbG n i (leafH leaf) p with
  | none => false
  | some (r, used) => decide (used = p.length) && decide (r = root)
def verifyG (pub m b : Bs) : Bool :=
  match partsG b with
  | none => false
  | some s => decide (pub.length = 32) && decide (m.length ≤ 65535) && checkG pub (2 ^ s.height) s.index (recG (digG pub s.index m) s.elements) s.path
theorem hashesG_len (seed : Bs) (h : Nat) : (hashesG seed h).length = 2 ^ h := by simp [hashesG, leavesL_len]
theorem hashesG_el (seed : Bs) (h : Nat) : ∀ l ∈ hashesG seed h, l.length = 32 := leafs_len _
theorem keyG_len (seed : Bs) (h : Nat) : (keyG seed h).length = 32 := rootG_len _ (hashesG_el seed h)
theorem hashesG_get (seed : Bs) (h i : Nat) (hi : i < 2 ^ h) : (hashesG seed h).getD i [] = leafH (otPublic seed i) := by
  rw [hashesG, leavesL, List.getD_eq_getElem?_getD, List.getElem?_map, List.getElem?_map, List.getElem?_range hi]; rfl
theorem getB_put4 (i : Nat) (h : i < 4294967296) : getB (putB 4 i) = i := by
  rw [getB_val, valB_put, show 256 ^ 4 = 4294967296 from rfl]; omega
theorem sigG_len (seed : Bs) (h i : Nat) (m : Bs) : (sigG seed h i m).length = 565 + 32 * h := by
  rw [sigG]
  simp only [List.length_append, List.length_cons, List.length_nil, putB_len]
  rw [flat_len 16 _ (signL_el _ _ _), signL_len, flat_len 32 _ (pathG_el _ _ _ (Nat.le_refl _) (hashesG_el seed h)), pathG_len h _ _ (hashesG_len seed h)]
theorem parts_sig (seed : Bs) (h i : Nat) (m : Bs) (hh : h ≤ 6) (hi : i < 2 ^ h) :
    partsG (sigG seed h i m) = some ⟨h, i, signL seed i (digG (keyG seed h) i m), pathG (hashesG seed h) i⟩ := by
  have h64 := pow_le64 h hh
  have hl := sigG_len seed h i m
  have e0 : (sigG seed h i m).getD 0 0 = UInt8.ofNat h := rfl
  have t0 : (UInt8.ofNat h).toNat = h := by simp; omega
  have e1 : ((sigG seed h i m).drop 1).take 4 = putB 4 i := by
    have := putB_len 4 i
    rw [sigG, List.append_assoc, List.append_assoc, List.singleton_append, List.drop_succ_cons, List.drop_zero, List.take_append_of_le_length (by omega), List.take_of_length_le (by omega)]
  have h5 : ([UInt8.ofNat h] ++ putB 4 i).length = 5 := by simp [putB_len]
  have e2 : (sigG seed h i m).drop 5 = (signL seed i (digG (keyG seed h) i m)).flatten ++ (pathG (hashesG seed h) i).flatten := by
    rw [sigG, List.append_assoc, List.drop_append_of_le_length (by omega), List.drop_of_length_le (by omega), List.nil_append]
  have hf := flat_len 16 _ (signL_el seed i (digG (keyG seed h) i m))
  rw [signL_len] at hf
  have e3 : (sigG seed h i m).drop 565 = (pathG (hashesG seed h) i).flatten := by
    rw [show (565 : Nat) = 5 + 560 from rfl, ← List.drop_drop, e2, List.drop_append_of_le_length (by omega), List.drop_of_length_le (by omega), List.nil_append]
  have hp := cutL_flat 32 (pathG (hashesG seed h) i) [] (pathG_el _ _ _ (Nat.le_refl _) (hashesG_el seed h))
  rw [pathG_len h _ _ (hashesG_len seed h), List.append_nil] at hp
  have hs := cutL_flat 16 (signL seed i (digG (keyG seed h) i m)) (pathG (hashesG seed h) i).flatten (signL_el _ _ _)
  rw [signL_len] at hs
  rw [partsG, if_neg (by omega), e0, t0, e1, getB_put4 i (by omega), if_neg (by omega), e2, e3, hp, hs]
theorem verify_sig (seed : Bs) (h i : Nat) (m : Bs) (hh : h ≤ 6) (hi : i < 2 ^ h) (hm : m.length ≤ 65535) : verifyG (keyG seed h) m (sigG seed h i m) = true := by
  have hc := climb_path _ (hashesG seed h) i [] (Nat.le_refl _) (by rw [hashesG_len]; exact hi)
  rw [hashesG_len, hashesG_get _ _ _ hi, List.append_nil] at hc
  rw [verifyG, parts_sig seed h i m hh hi]
  simp only
  rw [rec_sign _ _ _ (show (digG (keyG seed h) i m).length = 16 from short_len _), checkG, hc]
  have hk := keyG_len seed h
  unfold keyG at hk ⊢
  simp [hm, hk]
end
section
open Go.RowKit
set_option linter.unusedVariables false
attribute [local go_sem ↓] Go.wp_at_zero Go.wp_at_succ
set_option maxRecDepth 100000 in
theorem path_any (m : Nat) : ∀ (ls : List Bs) (i : Nat) (B : Nat) (u : Value) (w : World), ls.length ≤ m → i < ls.length → SeesL w B u ls → B ≤ w.heap.size → ls.length ≤ 1024 → (∀ l ∈ ls, l.length = 32) →
    Calls Try.prog 42 #[u, .int .i64 (i : Int)] w (GivesL (pathG ls i) w) := by
  induction m with
  | zero => intro ls i B u w hm hi; omega
  | succ m ih =>
    intro ls i B u w hm hi hu hB hn hl
    by_cases h0 : ls.length ≤ m
    · exact ih ls i B u w h0 hi hu hB hn hl
    · have hlen : ls.length = m + 1 := by omega
      by_cases h2 : 2 ≤ ls.length
      · obtain ⟨A, c, rfl, hc1, hc2⟩ := hu.mk_
        obtain ⟨k1, k2, k3⟩ := splitN_lt ls.length h2
        have hdv := divide_any A ls.length c w h2 hn hc1 hc2
        unfold DividePost at hdv
        have p1 := Lib.hid (fun h => pathG_left ls i h2 h)
        have p2 := Lib.hid (fun h => pathG_right ls i h2 h)
        generalize splitN ls.length = k at *
        obtain ⟨b, o, rfl, hbB, -⟩ := hu.at_ (by omega)
        have c1 := SeesL.cut (a := 0) (b := k) hu (by omega) (by omega)
        have c2 := SeesL.cut (a := k) (b := ls.length) hu (by omega) (Nat.le_refl _)
        rw [cutA_zero, Nat.sub_zero, Nat.sub_zero, List.drop_zero] at c1
        rw [List.take_of_length_le (by rw [List.length_drop]; omega)] at c2
        generalize cutA (some ⟨b, o, none⟩) c k 1 = A2 at hdv c2
        have l1 : ∀ x ∈ ls.take k, x.length = 32 := fun x hx => hl x (List.mem_of_mem_take hx)
        have l2 : ∀ x ∈ ls.drop k, x.length = 32 := fun x hx => hl x (List.mem_of_mem_drop hx)
        have n1 : (ls.take k).length = k := by rw [List.length_take]; omega
        have n2 : (ls.drop k).length = ls.length - k := by rw [List.length_drop]
        have q1 := Lib.hid (rootG_len _ l1)
        have q2 := Lib.hid (rootG_len _ l2)
        replace hdv := Lib.hid hdv
        have hlm := Lib.hid hlen
        have hplen : ∀ j, Hid ((pathG (ls.take k) j).length ≤ 1024 ∧ (pathG (ls.drop k) j).length ≤ 1024) := fun j => ⟨Nat.le_trans (pathG_short _ _) (by omega), Nat.le_trans (pathG_short _ _) (by omega)⟩
        have j4 : ¬ ((ls.length : Int) = 1) := by omega
        by_cases hk : i < k
        · have g1 := Lib.hid (fun q => ih (ls.take k) i B _ (w.drewN q) (by omega) (by omega) (SeesL.below c1 (below_drewN (Below.refl B w) q)) hB (by omega) l1)
          have g2 := Lib.hid (fun (W : World) (hbW : Below w.heap.size w W) => root_any _ (ls.drop k) B _ W (Nat.le_refl _) (SeesL.below c2 (hbW.mono hB)) (Nat.le_trans hB hbW.size) (by omega) l2)
          have i0 : (i : Int) < (k : Int) := by omega
          replace p1 := Lib.hid (p1.out hk)
          have hp := Lib.hid (hplen i).out.1
          clear ih c1 c2 hu hlen hl l1 l2 n1 n2 p2 hplen
          generalize pathG (ls.take k) i = P at *
          generalize rootG (ls.drop k) = R at *
          generalize rootG (ls.take k) = R' at *
          go_enter Try.func42, Try.ntmps42
          go_wp2_with fail
          refine hdv.out.mono ?_
          rintro e w0 ⟨rfl, q, rfl⟩
          dsimp only
          go_wp2_with fail
          refine (g1.out q).mono ?_
          rintro e w1 ⟨v1, rfl, h1, hb1⟩
          have hb1' : Below w.heap.size w w1 := (below_drewN (Below.refl _ _) q).trans hb1
          dsimp only
          go_wp2_with fail
          refine (g2.out w1 hb1').mono ?_
          rintro e w2 ⟨v2, rfl, h2', hb2⟩
          have hw2 := bgo hb1' hb2
          have ho2 := h1.below hb2
          have hel := Elt.of_from (v := v1) h2'.sees h2'.from (fun k hk => (h1.lt k hk).2)
          have hal := balloc w2 (.cells #[v2] 22)
          have hcell := Lib.hid (one_cell w2 v2 22)
          obtain ⟨A9, c9, rfl, -, -⟩ := h2'.sees.mk_
          obtain ⟨A8, c8, rfl⟩ := h1.shape
          replace ho2 := Lib.hid (ho2.below hal)
          replace hel := Lib.hid (hel.below hal)
          have hb3 := Lib.hid (bgo hw2 hal)
          clear hb2 hb1 hb1' hw2 h1 h2' hal g1 g2
          dsimp only
          go_wp2_with (at_builtin; refine wpList_appL (by rfl) _ _ 41 Try.underlying41 rfl w.heap.size _ P rfl ho2.out _ _ _ R rfl hcell.out hel.out (by have := hp.out; omega) hb3.out.size ?_)
          intro v' w' hW2 hb4
          have hW2 := Lib.hid hW2
          have hb4 := Lib.hid hb4
          go_wp2_with fail
          go_ret
          exact ⟨_, rfl, by rw [p1.out]; exact hW2.out, hb3.out.trans hb4.out⟩
        · have g1 := Lib.hid (fun q => ih (ls.drop k) (i - k) B _ (w.drewN q) (by omega) (by omega) (SeesL.below c2 (below_drewN (Below.refl B w) q)) hB (by omega) l2)
          have g2 := Lib.hid (fun (W : World) (hbW : Below w.heap.size w W) => root_any _ (ls.take k) B _ W (Nat.le_refl _) (SeesL.below c1 (hbW.mono hB)) (Nat.le_trans hB hbW.size) (by omega) l1)
          have i0 : ¬ ((i : Int) < (k : Int)) := by omega
          have i1 : (k : Int) ≤ (i : Int) := by omega
          have i2 : Hid (((i - k : Nat) : Int) = (i : Int) - (k : Int)) := by show _ = _; omega
          rw [i2.out] at g1
          replace p2 := Lib.hid (p2.out hk)
          have hp := Lib.hid (hplen (i - k)).out.2
          clear ih c1 c2 hu hlen hl l1 l2 n1 n2 p1 hplen
          generalize pathG (ls.drop k) (i - k) = P at *
          generalize rootG (ls.drop k) = R' at *
          generalize rootG (ls.take k) = R at *
          go_enter Try.func42, Try.ntmps42
          go_wp2_with fail
          refine hdv.out.mono ?_
          rintro e w0 ⟨rfl, q, rfl⟩
          dsimp only
          go_wp2_with fail
          refine (g1.out q).mono ?_
          rintro e w1 ⟨v1, rfl, h1, hb1⟩
          have hb1' : Below w.heap.size w w1 := (below_drewN (Below.refl _ _) q).trans hb1
          dsimp only
          go_wp2_with fail
          refine (g2.out w1 hb1').mono ?_
          rintro e w2 ⟨v2, rfl, h2', hb2⟩
          have hw2 := bgo hb1' hb2
          have ho2 := h1.below hb2
          have hel := Elt.of_from (v := v1) h2'.sees h2'.from (fun k hk => (h1.lt k hk).2)
          have hal := balloc w2 (.cells #[v2] 22)
          have hcell := Lib.hid (one_cell w2 v2 22)
          obtain ⟨A9, c9, rfl, -, -⟩ := h2'.sees.mk_
          obtain ⟨A8, c8, rfl⟩ := h1.shape
          replace ho2 := Lib.hid (ho2.below hal)
          replace hel := Lib.hid (hel.below hal)
          have hb3 := Lib.hid (bgo hw2 hal)
          clear hb2 hb1 hb1' hw2 h1 h2' hal g1 g2
          dsimp only
          go_wp2_with (at_builtin; refine wpList_appL (by rfl) _ _ 41 Try.underlying41 rfl w.heap.size _ P rfl ho2.out _ _ _ R rfl hcell.out hel.out (by have := hp.out; omega) hb3.out.size ?_)
          intro v' w' hW2 hb4
          have hW2 := Lib.hid hW2
          have hb4 := Lib.hid hb4
          go_wp2_with fail
          go_ret
          exact ⟨_, rfl, by rw [p2.out]; exact hW2.out, hb3.out.trans hb4.out⟩
      · have h1 : ls.length = 1 := by omega
        have hp : pathG ls i = [] := pathG_one _ _ h2
        obtain ⟨A, c, rfl, hc1, hc2⟩ := hu.mk_
        rw [h1] at hc1 ⊢
        rw [hp]
        clear hu ih hl hlen hp h1
        go_enter Try.func42, Try.ntmps42
        go_wp2_with fail
        go_ret
        exact ⟨_, rfl, OwnL.nil _ _, Below.refl _ _⟩
def PathPost (hs : List Bs) (i : Nat) (w : World) (e : Ending) (w' : World) : Prop :=
  ∃ v, e = .returned (.tuple #[v, .int .i64 0]) ∧ OwnL w' w.heap.size v (pathG hs i) ∧ Below w.heap.size w w'
theorem path_top (ls : List Bs) (i : Nat) (B : Nat) (u : Value) (w : World) (hu : SeesL w B u ls) (hi : i < ls.length) (hB : B ≤ w.heap.size) (hn : ls.length ≤ 1024) (hl : ∀ l ∈ ls, l.length ≤ 1048576) :
    Calls Try.prog 20 #[u, .int .i64 (i : Int)] w (PathPost (ls.map leafH) i w) := by
  have hs := Lib.hid (of_any ls B u w hu hB hn hl)
  obtain ⟨A, c, rfl, hc1, hc2⟩ := hu.mk_
  have j0 : ¬ ((1024 : Int) < (ls.length : Int)) := by omega
  have j1 : ¬ ((i : Int) < 0) := by omega
  have j2 : ¬ ((ls.length : Int) ≤ (i : Int)) := by omega
  clear hu hl
  go_enter Try.func20, Try.ntmps20
  go_wp2_with fail
  refine hs.out.mono ?_
  rintro e w1 ⟨v, rfl, h1, hb1⟩
  dsimp only
  go_wp2_with fail
  refine (path_any _ _ i _ _ _ (Nat.le_refl _) (by rw [List.length_map]; exact hi) h1 (Nat.le_refl _) (by rw [List.length_map]; exact hn) (leafs_len ls)).mono ?_
  rintro e w2 ⟨v2, rfl, h2, hb2⟩
  dsimp only
  go_wp2_with fail
  go_returns
  exact ⟨v2, rfl, h2.mono hb1.size, bgo hb1 hb2⟩
end
section
open Go.RowKit
set_option linter.unusedVariables false
attribute [local go_sem ↓] Go.wp_at_zero Go.wp_at_succ
def ClimbSome (r : Bs) (rest : List Bs) (w : World) (e : Ending) (w' : World) : Prop :=
  ∃ v v2, e = .returned (.tuple #[v, v2, .bool true]) ∧ SeesB w' w'.heap.size v r ∧ SeesL w' w'.heap.size v2 rest ∧ Below w.heap.size w w'
def ClimbNone (w : World) (e : Ending) (w' : World) : Prop :=
  e = .returned (.tuple #[.slice none 0 0, .slice none 0 0, .bool false]) ∧ Below w.heap.size w w'
def ClimbPost (x : Option (Bs × Nat)) (p : List Bs) (w : World) (e : Ending) (w' : World) : Prop :=
  match x with
  | none => ClimbNone w e w'
  | some (r, used) => ClimbSome r (p.drop used) w e w'
theorem SeesL.more {w : World} {B B' : Nat} {u : Value} {ls : List Bs} (h : SeesL w B u ls) (hB : B ≤ B') : SeesL w B' u ls := by
  obtain ⟨vs, hs, hv⟩ := h
  exact ⟨vs, hs.more hB, fun k hk => by obtain ⟨v, h1, h2⟩ := hv k hk; exact ⟨v, h1, h2.more hB⟩⟩
theorem drop_head (p : List Bs) (u : Nat) (h : u < p.length) : (p.drop u).getD 0 [] = p.getD u [] ∧ (p.drop u).length = p.length - u ∧ 0 < (p.drop u).length ∧ (p.drop u).drop 1 = p.drop (u + 1) := by
  refine ⟨by rw [List.getD_eq_getElem?_getD, List.getElem?_drop, Nat.add_zero, ← List.getD_eq_getElem?_getD], by rw [List.length_drop], by rw [List.length_drop]; omega, by rw [List.drop_drop]⟩
set_option maxRecDepth 100000 in
theorem climb_any (m : Nat) : ∀ (n i : Nat) (a : Bs) (p : List Bs) (B : Nat) (u u2 : Value) (w : World), n ≤ m → 1 ≤ n → i < n → n ≤ 1024 → SeesB w B u a → SeesL w B u2 p → B ≤ w.heap.size → a.length ≤ 1048576 → (∀ l ∈ p, l.length ≤ 1048576) →
    Calls Try.prog 73 #[.int .i64 (n : Int), .int .i64 (i : Int), u, u2] w (ClimbPost (climbG n i a p) p w) := by
  induction m with
  | zero => intro n i a p B u u2 w hm h1; omega
  | succ m ih =>
    intro n i a p B u u2 w hm h1 hi hn hu hu2 hB ha hp
    obtain ⟨A, c, rfl, hc1, hc2⟩ := hu.mk_
    obtain ⟨AA, cc, rfl, hc3, hc4⟩ := hu2.mk_
    by_cases h2 : 2 ≤ n
    · obtain ⟨k1, k2, k3⟩ := splitN_lt n h2
      have hsp := Lib.hid (half_any n w h2 hn)
      have p1 := Lib.hid (climbG_left n i a p h2)
      have p2 := Lib.hid (climbG_right n i a p h2)
      have hlen := fun k j r x h => climbG_len n k j a p r x h
      generalize splitN n = k at *
      have j4 : ¬ ((n : Int) = 1) := by omega
      by_cases hk : i < k
      · have g1 := ih k i a p B _ _ w (by omega) (by omega) hk (by omega) hu hu2 hB ha hp
        have i0 : (i : Int) < (k : Int) := by omega
        replace p1 := Lib.hid (p1.out hk)
        have hlen := hlen k i
        clear ih p2 hu hu2
        rw [p1.out]
        rcases hcl : climbG k i a p with _ | ⟨r, used⟩
        · rw [hcl] at g1
          replace g1 := Lib.hid g1
          clear p1 hcl hlen
          go_enter Try.func73, Try.ntmps73
          go_wp2_with fail
          refine hsp.out.mono ?_
          rintro e w0 ⟨rfl, rfl⟩
          dsimp only
          go_wp2_with fail
          refine g1.out.mono ?_
          rintro e w1 ⟨rfl, hb1⟩
          dsimp only
          go_wp2_with fail
          go_returns
          exact ⟨rfl, hb1⟩
        · rw [hcl] at g1
          have hr : r.length ≤ 1048576 := by rcases hlen r used (by omega) hcl with rfl | h <;> omega
          replace g1 : Hid (Calls _ _ _ _ (ClimbSome r (p.drop used) w)) := g1
          clear p1 hcl hlen
          dsimp only
          by_cases hus : used < p.length
          · obtain ⟨d1, d2, d3, d4⟩ := drop_head p used hus
            have hx : (p.getD used []).length ≤ 1048576 := by rw [List.getD_eq_getElem?_getD, List.getElem?_eq_getElem hus]; exact hp _ (List.getElem_mem hus)
            rw [if_pos hus]
            show Calls _ _ _ _ (ClimbSome _ (p.drop (used + 1)) w)
            rw [← d4]
            rw [← d1] at hx ⊢
            generalize p.drop used = q at *
            clear d1 d2 d4 hp hus
            replace hx := Lib.hid hx
            replace hr := Lib.hid hr
            go_enter Try.func73, Try.ntmps73
            go_wp2_with fail
            refine hsp.out.mono ?_
            rintro e w0 ⟨rfl, rfl⟩
            dsimp only
            go_wp2_with fail
            refine g1.out.mono ?_
            rintro e w1 ⟨v, v2, rfl, hv, hv2, hb1⟩
            obtain ⟨A3, c3, rfl, e1, e2⟩ := hv.mk_
            obtain ⟨A4, c4, rfl, e3, e4⟩ := hv2.mk_
            have hcut := SeesL.cut (a := 1) (b := q.length) hv2 (by omega) (Nat.le_refl _)
            rw [List.take_of_length_le (by rw [List.length_drop]; omega)] at hcut
            obtain ⟨b, o, rfl, hbB, hcell⟩ := hv2.at_ d3
            obtain ⟨A5, c5, x0, -, -, hsee⟩ := hcell 0 d3
            rw [Nat.add_zero] at x0
            have r2 := run_cut_from (P := Try.prog) 41 Try.underlying41 1 slice_size (some ⟨b, o, none⟩) q.length c4 .i64 1 (by omega) (by omega)
            rw [show (1 : Int).toNat = 1 from rfl] at r2
            generalize cutA (some ⟨b, o, none⟩) c4 1 1 = A2 at r2 hcut
            have hnd := Lib.hid (node_any w1.heap.size _ _ r _ w1.drew hv hsee (Nat.le_refl _) (Nat.le_trans hr.out (by omega)) (Nat.le_trans hx.out (by omega)))
            generalize q.getD 0 [] = x at *
            have t0 : ((q.length : Int) == 0) = false := by rw [beq_eq_false_iff_ne]; omega
            have t1 : (0 : Int) < (q.length : Int) := by omega
            have t2 : (1 : Int) ≤ (q.length : Int) := by omega
            replace hcut := Lib.hid hcut
            replace hb1 := Lib.hid hb1
            clear hv hv2 hcell hsee
            dsimp only
            go_wp2_with fail
            go_region_held3 (fun W' : World => W'.cell? ⟨b, o, none⟩ = some (.slice A5 x.length c5)) (first | (go_keep; done) | exact ((hb3.cell (p := ⟨b, o, none⟩) hbB).trans x0))
              (first
                | (go_at_call 60; refine hnd.out.mono ?_; rintro e w2 ⟨v3, rfl, h3, hb3⟩))
            all_goals
              go_wp2_with fail
              go_returns
              have hw := (bdrew w1).trans hb3
              exact ⟨v3, _, rfl, h3.sees, (hcut.out.below hw).more hw.size, bgo hb1.out hw⟩
          · rw [if_neg hus]
            have hq : (p.drop used).length = 0 := by rw [List.length_drop]; omega
            generalize p.drop used = q at *
            replace hq := Lib.hid hq
            clear hp hus
            go_enter Try.func73, Try.ntmps73
            go_wp2_with fail
            refine hsp.out.mono ?_
            rintro e w0 ⟨rfl, rfl⟩
            dsimp only
            go_wp2_with fail
            refine g1.out.mono ?_
            rintro e w1 ⟨v, v2, rfl, hv, hv2, hb1⟩
            obtain ⟨A3, c3, rfl, e1, e2⟩ := hv.mk_
            obtain ⟨A4, c4, rfl, e3, e4⟩ := hv2.mk_
            rw [hq.out]
            clear hv hv2
            dsimp only
            go_wp2_with fail
            go_returns
            exact ⟨rfl, hb1⟩
      · have g1 := ih (n - k) (i - k) a p B _ _ w (by omega) (by omega) (by omega) (by omega) hu hu2 hB ha hp
        have i0 : ¬ ((i : Int) < (k : Int)) := by omega
        have i1 : (k : Int) ≤ (i : Int) := by omega
        have i2 : (k : Int) ≤ (n : Int) := by omega
        have i3 : Hid (((i - k : Nat) : Int) = (i : Int) - (k : Int)) := by show _ = _; omega
        have i4 : Hid (((n - k : Nat) : Int) = (n : Int) - (k : Int)) := by show _ = _; omega
        rw [i3.out, i4.out] at g1
        replace p1 := Lib.hid (p2.out hk)
        have hlen := hlen (n - k) (i - k)
        clear ih p2 hu hu2
        rw [p1.out]
        rcases hcl : climbG (n - k) (i - k) a p with _ | ⟨r, used⟩
        · rw [hcl] at g1
          replace g1 := Lib.hid g1
          clear p1 hcl hlen
          go_enter Try.func73, Try.ntmps73
          go_wp2_with fail
          refine hsp.out.mono ?_
          rintro e w0 ⟨rfl, rfl⟩
          dsimp only
          go_wp2_with fail
          refine g1.out.mono ?_
          rintro e w1 ⟨rfl, hb1⟩
          dsimp only
          go_wp2_with fail
          go_returns
          exact ⟨rfl, hb1⟩
        · rw [hcl] at g1
          have hr : r.length ≤ 1048576 := by rcases hlen r used (by omega) hcl with rfl | h <;> omega
          replace g1 : Hid (Calls _ _ _ _ (ClimbSome r (p.drop used) w)) := g1
          clear p1 hcl hlen
          dsimp only
          by_cases hus : used < p.length
          · obtain ⟨d1, d2, d3, d4⟩ := drop_head p used hus
            have hx : (p.getD used []).length ≤ 1048576 := by rw [List.getD_eq_getElem?_getD, List.getElem?_eq_getElem hus]; exact hp _ (List.getElem_mem hus)
            rw [if_pos hus]
            show Calls _ _ _ _ (ClimbSome _ (p.drop (used + 1)) w)
            rw [← d4]
            rw [← d1] at hx ⊢
            generalize p.drop used = q at *
            clear d1 d2 d4 hp hus
            replace hx := Lib.hid hx
            replace hr := Lib.hid hr
            go_enter Try.func73, Try.ntmps73
            go_wp2_with fail
            refine hsp.out.mono ?_
            rintro e w0 ⟨rfl, rfl⟩
            dsimp only
            go_wp2_with fail
            refine g1.out.mono ?_
            rintro e w1 ⟨v, v2, rfl, hv, hv2, hb1⟩
            obtain ⟨A3, c3, rfl, e1, e2⟩ := hv.mk_
            obtain ⟨A4, c4, rfl, e3, e4⟩ := hv2.mk_
            have hcut := SeesL.cut (a := 1) (b := q.length) hv2 (by omega) (Nat.le_refl _)
            rw [List.take_of_length_le (by rw [List.length_drop]; omega)] at hcut
            obtain ⟨b, o, rfl, hbB, hcell⟩ := hv2.at_ d3
            obtain ⟨A5, c5, x0, -, -, hsee⟩ := hcell 0 d3
            rw [Nat.add_zero] at x0
            have r2 := run_cut_from (P := Try.prog) 41 Try.underlying41 1 slice_size (some ⟨b, o, none⟩) q.length c4 .i64 1 (by omega) (by omega)
            rw [show (1 : Int).toNat = 1 from rfl] at r2
            generalize cutA (some ⟨b, o, none⟩) c4 1 1 = A2 at r2 hcut
            have hnd := Lib.hid (node_any w1.heap.size _ _ _ r w1.drew hsee hv (Nat.le_refl _) (Nat.le_trans hx.out (by omega)) (Nat.le_trans hr.out (by omega)))
            generalize q.getD 0 [] = x at *
            have t0 : ((q.length : Int) == 0) = false := by rw [beq_eq_false_iff_ne]; omega
            have t1 : (0 : Int) < (q.length : Int) := by omega
            have t2 : (1 : Int) ≤ (q.length : Int) := by omega
            replace hcut := Lib.hid hcut
            replace hb1 := Lib.hid hb1
            clear hv hv2 hcell hsee
            dsimp only
            go_wp2_with fail
            go_region_held3 (fun W' : World => W'.cell? ⟨b, o, none⟩ = some (.slice A5 x.length c5)) (first | (go_keep; done) | exact ((hb3.cell (p := ⟨b, o, none⟩) hbB).trans x0))
              (first
                | (go_at_call 60; refine hnd.out.mono ?_; rintro e w2 ⟨v3, rfl, h3, hb3⟩))
            all_goals
              go_wp2_with fail
              go_returns
              have hw := (bdrew w1).trans hb3
              exact ⟨v3, _, rfl, h3.sees, (hcut.out.below hw).more hw.size, bgo hb1.out hw⟩
          · rw [if_neg hus]
            have hq : (p.drop used).length = 0 := by rw [List.length_drop]; omega
            generalize p.drop used = q at *
            replace hq := Lib.hid hq
            clear hp hus
            go_enter Try.func73, Try.ntmps73
            go_wp2_with fail
            refine hsp.out.mono ?_
            rintro e w0 ⟨rfl, rfl⟩
            dsimp only
            go_wp2_with fail
            refine g1.out.mono ?_
            rintro e w1 ⟨v, v2, rfl, hv, hv2, hb1⟩
            obtain ⟨A3, c3, rfl, e1, e2⟩ := hv.mk_
            obtain ⟨A4, c4, rfl, e3, e4⟩ := hv2.mk_
            rw [hq.out]
            clear hv hv2
            dsimp only
            go_wp2_with fail
            go_returns
            exact ⟨rfl, hb1⟩
    · obtain rfl : n = 1 := by omega
      have hc := climbG_one 1 i a p h2
      rw [hc]
      show Calls _ _ _ _ (ClimbSome a (p.drop 0) w)
      rw [List.drop_zero]
      clear ih
      replace hu := Lib.hid (hu.more hB)
      replace hu2 := Lib.hid (SeesL.more hu2 hB)
      go_enter Try.func73, Try.ntmps73
      go_wp2_with fail
      go_returns
      exact ⟨_, _, rfl, hu.out, hu2.out, Below.refl _ _⟩
end
section
open Go.RowKit
set_option linter.unusedVariables false
attribute [local go_sem ↓] Go.wp_at_zero Go.wp_at_succ
set_option maxRecDepth 100000 in
theorem equal_any (B B' : Nat) (u v : Value) (a b : Bs) (w : World) (hu : SeesB w B u a) (hv : SeesB w B' v b) :
    Calls Try.prog 74 #[u, v] w fun e w' => e = .returned (.bool (a == b)) ∧ w' = w := by
  obtain ⟨A, c, rfl, _, _⟩ := hu.mk_
  obtain ⟨A', c', rfl, _, _⟩ := hv.mk_
  have h1 := hu.string
  have h2 := hv.string
  clear hu hv
  go_enter Try.func74, Try.ntmps74
  go_wp2
  go_ret
  exact ⟨ret_bool (by rw [strB_toList, strB_toList]), rfl⟩
theorem same_any (B B' : Nat) (u v : Value) (a b : Bs) (w : World) (hu : SeesB w B u a) (hv : SeesB w B' v b) :
    Calls Try.prog 47 #[u, v] w fun e w' => e = .returned (.bool (a == b)) ∧ w' = w := by
  have h := Lib.hid (equal_any B B' u v a b w hu hv)
  obtain ⟨A, c, rfl, _, _⟩ := hu.mk_
  obtain ⟨A', c', rfl, _, _⟩ := hv.mk_
  clear hu hv
  go_enter Try.func47, Try.ntmps47
  go_wp2_with fail
  refine h.out.mono ?_
  rintro e w0 ⟨rfl, rfl⟩
  dsimp only
  go_wp2_with fail
  go_ret
  exact ⟨rfl, rfl⟩
def inI (n i : Int) : Bool := decide (1 ≤ n) && decide (n ≤ 1024) && decide (0 ≤ i) && decide (i < n)
def climbI (n i : Int) (leaf : Bs) (p : List Bs) : Option Bs :=
  if inI n i = true then
    match climbG n.toNat i.toNat (leafH leaf) p with
    | none => none
    | some (r, used) => if used = p.length then some r else none
  else none
def checkI (root : Bs) (n i : Int) (leaf : Bs) (p : List Bs) : Bool :=
  match climbI n i leaf p with
  | none => false
  | some r => r == root
def CSome (r : Bs) (w : World) (e : Ending) (w' : World) : Prop := ∃ v, e = .returned (.tuple #[v, .bool true]) ∧ SeesB w' w'.heap.size v r ∧ Below w.heap.size w w'
def CNone (w : World) (e : Ending) (w' : World) : Prop := e = .returned (.tuple #[.slice none 0 0, .bool false]) ∧ Below w.heap.size w w'
def CPost (x : Option Bs) (w : World) (e : Ending) (w' : World) : Prop :=
  match x with
  | none => CNone w e w'
  | some r => CSome r w e w'
theorem inI_ok {n i : Int} (h : inI n i = true) : 1 ≤ n ∧ n ≤ 1024 ∧ 0 ≤ i ∧ i < n := by
  simpa [inI, and_assoc] using h
theorem inI_no {n i : Int} (h : ¬ inI n i = true) : n < 1 ∨ (1 ≤ n ∧ 1024 < n) ∨ (1 ≤ n ∧ n ≤ 1024 ∧ i < 0) ∨ (1 ≤ n ∧ n ≤ 1024 ∧ 0 ≤ i ∧ n ≤ i) := by
  simp [inI] at h
  omega
set_option maxRecDepth 100000 in
theorem climbT_any (n i : Int) (a : Bs) (p : List Bs) (B : Nat) (u u2 : Value) (w : World) (hu : SeesB w B u a) (hu2 : SeesL w B u2 p) (hB : B ≤ w.heap.size) (ha : a.length ≤ 1048576) (hp : ∀ l ∈ p, l.length ≤ 1048576) :
    Calls Try.prog 46 #[.int .i64 n, .int .i64 i, u, u2] w (CPost (climbI n i a p) w) := by
  obtain ⟨A, c, rfl, hc1, hc2⟩ := hu.mk_
  obtain ⟨AA, cc, rfl, hc3, hc4⟩ := hu2.mk_
  by_cases hin : inI n i = true
  · obtain ⟨n1, n2, i1, i2⟩ := inI_ok hin
    have hci : climbI n i a p = match climbG n.toNat i.toNat (leafH a) p with
        | none => none
        | some (r, used) => if used = p.length then some r else none := by rw [climbI, if_pos hin]
    rw [hci]
    obtain ⟨n, rfl⟩ := Int.eq_ofNat_of_zero_le (show 0 ≤ n by omega)
    obtain ⟨i, rfl⟩ := Int.eq_ofNat_of_zero_le i1
    rw [Int.toNat_natCast, Int.toNat_natCast]
    have j0 : ¬ ((n : Int) < 1) := by omega
    have j1 : ¬ ((1024 : Int) < (n : Int)) := by omega
    have j2 : ¬ ((i : Int) < 0) := by omega
    have j3 : ¬ ((n : Int) ≤ (i : Int)) := by omega
    have hus : ∀ r u, climbG n i (leafH a) p = some (r, u) → u ≤ p.length := fun r u h => climbG_used n n i _ _ r u (Nat.le_refl _) h
    clear hci hin
    have hlf := Lib.hid (leaf_any B _ a w hu hB (by omega))
    have hall : (leafH a).length = 32 := sha_len _
    have hcm := fun (W : World) (v : Value) (hb : Below w.heap.size w W) (hv : SeesB W W.heap.size v (leafH a)) => climb_any n n i (leafH a) p W.heap.size v (.slice AA p.length cc) W (Nat.le_refl _) (by omega) (by omega) (by omega) hv (SeesL.more (hu2.below (hb.mono hB)) (Nat.le_trans hB hb.size)) (Nat.le_refl _) (by omega) hp
    replace hcm := Lib.hid hcm
    clear hu hu2 hp hall
    rcases hcl : climbG n i (leafH a) p with _ | ⟨r, used⟩
    · rw [hcl] at hcm
      clear hcl hus
      show Calls _ _ _ _ (CNone w)
      go_enter Try.func46, Try.ntmps46
      go_wp2_with fail
      refine hlf.out.mono ?_
      rintro e w1 ⟨v, rfl, hv, hb1⟩
      dsimp only
      go_wp2_with fail
      have hc := hcm.out w1 v hb1 hv.sees
      replace hc : Calls _ _ _ _ (ClimbNone w1) := hc
      refine hc.mono ?_
      rintro e w2 ⟨rfl, hb2⟩
      dsimp only
      go_wp2_with fail
      go_returns
      exact ⟨rfl, bgo hb1 hb2⟩
    · rw [hcl] at hcm
      replace hcm : Hid (∀ (W : World) (v : Value), Below w.heap.size w W → SeesB W W.heap.size v (leafH a) → Calls Try.prog 73 #[.int .i64 (n : Int), .int .i64 (i : Int), v, .slice AA p.length cc] W (ClimbSome r (p.drop used) W)) := hcm
      have hle := hus r used hcl
      clear hcl hus
      have hdl : (p.drop used).length = p.length - used := List.length_drop
      dsimp only
      by_cases hu : used = p.length
      · rw [if_pos hu]
        have h0 : (p.drop used).length = 0 := by omega
        show Calls _ _ _ _ (CSome r w)
        generalize p.drop used = q at *
        replace h0 := Lib.hid h0
        clear hdl hu hle
        go_enter Try.func46, Try.ntmps46
        go_wp2_with fail
        refine hlf.out.mono ?_
        rintro e w1 ⟨v, rfl, hv, hb1⟩
        dsimp only
        go_wp2_with fail
        have hc := hcm.out w1 v hb1 hv.sees
        replace hc : Calls _ _ _ _ (ClimbSome r q w1) := hc
        refine hc.mono ?_
        rintro e w2 ⟨v2, v3, rfl, h2, h3, hb2⟩
        obtain ⟨A3, c3, rfl, -, -⟩ := h2.mk_
        obtain ⟨A4, c4, rfl, -, -⟩ := h3.mk_
        rw [h0.out]
        clear h3
        replace h2 := Lib.hid h2
        dsimp only
        go_wp2_with fail
        go_returns
        exact ⟨_, rfl, h2.out, bgo hb1 hb2⟩
      · rw [if_neg hu]
        have h0 : (0 : Int) < ((p.drop used).length : Int) := by omega
        show Calls _ _ _ _ (CNone w)
        generalize p.drop used = q at *
        clear hdl hu hle
        go_enter Try.func46, Try.ntmps46
        go_wp2_with fail
        refine hlf.out.mono ?_
        rintro e w1 ⟨v, rfl, hv, hb1⟩
        dsimp only
        go_wp2_with fail
        have hc := hcm.out w1 v hb1 hv.sees
        replace hc : Calls _ _ _ _ (ClimbSome r q w1) := hc
        refine hc.mono ?_
        rintro e w2 ⟨v2, v3, rfl, h2, h3, hb2⟩
        obtain ⟨A3, c3, rfl, -, -⟩ := h2.mk_
        obtain ⟨A4, c4, rfl, -, -⟩ := h3.mk_
        clear h3 h2
        dsimp only
        go_wp2_with fail
        go_returns
        exact ⟨rfl, bgo hb1 hb2⟩
  · have hci : climbI n i a p = none := by rw [climbI, if_neg hin]
    rw [hci]
    show Calls _ _ _ _ (CNone w)
    clear hu hu2 hp
    rcases inI_no hin with j0 | ⟨j0, j1⟩ | ⟨j0, j1, j2⟩ | ⟨j0, j1, j2, j3⟩
    · go_enter Try.func46, Try.ntmps46
      go_wp2_with fail
      go_returns
      exact ⟨rfl, Below.refl _ _⟩
    · have j2 : ¬ (n < 1) := by omega
      go_enter Try.func46, Try.ntmps46
      go_wp2_with fail
      go_returns
      exact ⟨rfl, Below.refl _ _⟩
    · have j3 : ¬ (n < 1) := by omega
      have j4 : ¬ (1024 < n) := by omega
      go_enter Try.func46, Try.ntmps46
      go_wp2_with fail
      go_returns
      exact ⟨rfl, Below.refl _ _⟩
    · have j4 : ¬ (n < 1) := by omega
      have j5 : ¬ (1024 < n) := by omega
      have j6 : ¬ (i < 0) := by omega
      go_enter Try.func46, Try.ntmps46
      go_wp2_with fail
      go_returns
      exact ⟨rfl, Below.refl _ _⟩
def BoolPost (b : Bool) (w : World) (e : Ending) (w' : World) : Prop := e = .returned (.bool b) ∧ Below w.heap.size w w'
set_option maxRecDepth 100000 in
theorem check_any (root : Bs) (n i : Int) (a : Bs) (p : List Bs) (B : Nat) (ur u u2 : Value) (w : World) (hr : SeesB w B ur root) (hu : SeesB w B u a) (hu2 : SeesL w B u2 p) (hB : B ≤ w.heap.size) (ha : a.length ≤ 1048576) (hp : ∀ l ∈ p, l.length ≤ 1048576) :
    Calls Try.prog 23 #[ur, .int .i64 n, .int .i64 i, u, u2] w (BoolPost (checkI root n i a p) w) := by
  have hc := climbT_any n i a p B u u2 w hu hu2 hB ha hp
  obtain ⟨A, c, rfl, -, -⟩ := hu.mk_
  obtain ⟨AA, cc, rfl, -, -⟩ := hu2.mk_
  obtain ⟨AR, cr, rfl, -, -⟩ := hr.mk_
  clear hu hu2 hp
  unfold checkI
  replace hr := Lib.hid hr
  rcases hcl : climbI n i a p with _ | r
  · rw [hcl] at hc
    replace hc : Hid (Calls _ _ _ _ (CNone w)) := hc
    clear hcl
    go_enter Try.func23, Try.ntmps23
    go_wp2_with fail
    refine hc.out.mono ?_
    rintro e w1 ⟨rfl, hb1⟩
    dsimp only
    go_wp2_with fail
    go_ret
    exact ⟨rfl, hb1⟩
  · rw [hcl] at hc
    replace hc : Hid (Calls _ _ _ _ (CSome r w)) := hc
    clear hcl
    go_enter Try.func23, Try.ntmps23
    go_wp2_with fail
    refine hc.out.mono ?_
    rintro e w1 ⟨v, rfl, hv, hb1⟩
    have hsm := Lib.hid (same_any _ _ _ _ _ _ w1 hv (hr.out.below (hb1.mono hB)))
    obtain ⟨A3, c3, rfl, -, -⟩ := hv.mk_
    clear hv
    dsimp only
    go_wp2_with fail
    refine hsm.out.mono ?_
    rintro e w2 ⟨rfl, rfl⟩
    dsimp only
    go_wp2_with fail
    go_ret
    exact ⟨rfl, hb1⟩
end
section
open Go.RowKit
set_option linter.unusedVariables false
attribute [local go_sem ↓] Go.wp_at_zero Go.wp_at_succ
theorem chainN_nat (x : Nat) (h : x < 16) : chainN (x : Int) = x := by unfold chainN; omega
def signF (seed : Bs) (i : Nat) (ds : List Nat) (k : Nat) : List Bs := (List.range k).map fun c => chainH (ds.getD c 0) (otBegin seed i c)
theorem signF_succ (seed : Bs) (i : Nat) (ds : List Nat) (k : Nat) : signF seed i ds (k + 1) = signF seed i ds k ++ [chainH (ds.getD k 0) (otBegin seed i k)] := by simp [signF, List.range_succ]
theorem signF_len (seed : Bs) (i : Nat) (ds : List Nat) (k : Nat) : (signF seed i ds k).length = k := by simp [signF]
def OtSignPost (ls : List Bs) (w : World) (e : Ending) (w' : World) : Prop :=
  ∃ v, e = .returned (.tuple #[v, .int .i64 0]) ∧ OwnL w' w.heap.size v ls ∧ Below w.heap.size w w'
set_option maxRecDepth 100000 in
theorem otsign_any (B : Nat) (u u2 : Value) (seed d : Bs) (i : Nat) (w : World) (hu : SeesB w B u seed) (hu2 : SeesB w B u2 d) (hB : B ≤ w.heap.size) (hl : seed.length = 32) (hd : d.length = 16) (hi : i ≤ 2147483647) :
    Calls Try.prog 39 #[u, .int .i64 (i : Int), u2] w (OtSignPost (signL seed i d) w) := by
  obtain ⟨A, c, rfl, hc1, hc2⟩ := hu.mk_
  obtain ⟨AA, cc, rfl, hc3, hc4⟩ := hu2.mk_
  have hv := otvalid_any B _ seed (i : Int) w hu
  rw [show otC seed (i : Int) = 0 by simp [otC, hl]; omega] at hv
  have hdg := digits_any B _ d w hu2 hB hd
  unfold DigPost at hdg
  have hfin : Hid (signL seed i d = signF seed i (digs d) 35) := rfl
  have hlen := digs_len d
  have hlt16 := digs_get d hd
  rw [hd] at hlen hu2 hc3 hdg ⊢
  rw [hl] at hu hc1 hv ⊢
  generalize digs d = ds at *
  replace hlen : Hid (ds.length = 35) := hlen
  replace hlt16 := Lib.hid hlt16
  replace hl := Lib.hid hl
  replace hd := Lib.hid hd
  replace hu := Lib.hid hu
  replace hv := Lib.hid hv
  replace hdg := Lib.hid hdg
  clear hu2
  have hmk : ∀ W : World, (Instr.makeSlice 41 (.int .i64 35) (.int .i64 35)).run Try.prog W = .ok (.slice (some ⟨W.heap.size, 0, none⟩) 35 35) (W.alloc (.cells (Array.replicate 35 (Value.slice none 0 0)) 22)) := fun W => by
    rw [← List.toArray_replicate]; exact make_lists 41 Try.underlying41 35 (by omega) W
  go_enter Try.func39, Try.ntmps39
  go_wp2_with fail
  refine hv.out.mono ?_
  rintro e w0 ⟨rfl, rfl⟩
  dsimp only
  go_wp2_with fail
  refine hdg.out.mono ?_
  rintro e w1 ⟨v1, rfl, h1, hb1⟩
  obtain ⟨A1, c1, rfl, g1, g2⟩ := h1.sees.mk_
  rw [hlen.out] at g1 ⊢
  have h1' := h1.sees
  rw [hlen.out] at h1'
  obtain ⟨b, o, rfl, hbB, hcell⟩ := h1'.at_ (by rw [hlen.out]; omega)
  rw [hlen.out] at hcell
  replace hcell := Lib.hid hcell
  clear h1 h1'
  dsimp only
  go_wp2_with fail
  obtain ⟨wo, rfl⟩ : ∃ wo : World, wo = w1 := ⟨_, rfl⟩
  refine wp_fresh (fun W => OwnL W wo.heap.size (.slice (some ⟨wo.heap.size, 0, none⟩) 35 35) (signF seed i ds 0 ++ List.replicate (35 - 0) []) ∧ Below wo.heap.size wo W ∧ wo.heap.size < W.heap.size) ⟨show OwnL _ _ _ (List.replicate 35 []) from OwnL.made wo 35 (by unfold maxLen; omega), balloc wo _, by simp⟩ ?_
  rintro W0 ⟨ho, hb, hlt0⟩
  replace ho := Lib.hid ho
  replace hb := Lib.hid hb
  replace hb1 := Lib.hid hb1
  obtain ⟨g, hg⟩ : ∃ g, g = wo.heap.size := ⟨_, rfl⟩
  rw [← hg] at ho hlt0 ⊢
  replace hg := Lib.hid hg
  clear hmk hdg hv
  go_loopw [12, 13, 33] (fun _ _ t wr => ∃ k : Nat, k ≤ 35 ∧ t = .int .i64 k ∧ Hid (OwnL wr g (.slice (some ⟨g, 0, none⟩) 35 35) (signF seed i ds k ++ List.replicate (35 - k) [])) ∧ Hid (Below wo.heap.size wo wr) ∧ Hid (g < wr.heap.size)) (fun _ _ t _ => 35 - (intOf t).toNat)
  case atStart => exact ⟨0, by omega, rfl, ho, hb, hlt0⟩
  case round =>
    clear ho hb hlt0
    obtain ⟨k, hk, rfl, ho, hb, hgl⟩ := hrel
    by_cases hlt : k < 35
    · have x0 := (hb.out.cell (p := ⟨b, o + k, none⟩) hbB).trans (hcell.out k hlt)
      have hdk := hlt16.out k hlt
      have hst : Hid (signF seed i ds (k + 1) ++ List.replicate (35 - (k + 1)) [] = (signF seed i ds k ++ List.replicate (35 - k) []).set k (chainH (ds.getD k 0) (otBegin seed i k))) := by
        show _ = _
        rw [set_rep _ _ _ _ (signF_len seed i ds k) hlt, signF_succ]
      have hrow : Hid (k < (signF seed i ds k ++ List.replicate (35 - k) []).length) := by show _ < _; rw [List.length_append, signF_len, List.length_replicate]; omega
      have hbg := Lib.hid (begin_any B _ seed i k wr (hu.out.below ((bgo hb1.out hb.out).mono hB)) (Nat.le_trans hB (bgo hb1.out hb.out).size) (by rw [hl.out]; omega) hi (by omega))
      have hlb : Hid ((otBegin seed i k).length = 16) := short_len _
      generalize signF seed i ds k ++ List.replicate (35 - k) [] = row at *
      generalize otBegin seed i k = bg at *
      generalize ds.getD k 0 = dk at *
      have i0 : (0 : Int) ≤ (k : Int) := by omega
      have i1 : (k : Int) < 35 := by omega
      go_wp2_with fail
      refine hbg.out.mono ?_
      rintro e w2 ⟨v2, rfl, h2, hb2, hf2⟩
      have hch := chain_any _ _ _ (dk : Int) w2 h2 (Nat.le_refl _) (by rw [hlb.out]; omega)
      rw [chainN_nat dk hdk] at hch
      replace hch := Lib.hid hch
      generalize chainH dk bg = l at *
      clear h2 hf2
      dsimp only
      go_wp2_with fail
      refine hch.out.mono ?_
      rintro e w3 ⟨v3, rfl, h3, hb3, hf3⟩
      have hb23 := bgo hb2 hb3
      have ho2 := ho.out.below hb23
      obtain ⟨⟨z, y0⟩, f0⟩ := ho2.cell hrow.out
      obtain ⟨o1, o2⟩ := ho2.set hrow.out (Elt.of_from h3 hf3 (fun k hk => by cases hk; exact Nat.lt_of_lt_of_le hgl.out hb2.size))
      obtain ⟨A2, c2, rfl, -, -⟩ := h3.mk_
      replace hb := Lib.hid ((bgo hb.out hb23).trans (o2.mono (by have := hg.out; omega)))
      replace hgl : Hid (g < (w3.setCell ⟨g, k, none⟩ (.slice A2 l.length c2)).heap.size) := Nat.lt_of_lt_of_le (Nat.lt_of_lt_of_le hgl.out hb23.size) o2.size
      replace o1 := Lib.hid o1
      clear hb2 hb3 hb23 hbg hch ho ho2 o2 h3 hf3
      dsimp only
      go_wp2_with fail
      go_roundw
      case rel => exact ⟨k + 1, by omega, by go_num, by rw [hst.out]; exact o1.out, hb, hgl⟩
      case measure => simp [intOf]; omega
    · have hkn : k = 35 := by omega
      have hf : Hid (OwnL wr w0.heap.size (.slice (some ⟨g, 0, none⟩) 35 35) (signF seed i ds 35)) := by
        have := ho.out
        rw [hkn, Nat.sub_self, List.replicate_zero, List.append_nil] at this
        exact this.mono (by have := hg.out; have := hb1.out.size; omega)
      replace hkn := Lib.hid hkn
      clear ho
      go_wp2_with fail
      go_returns
      exact ⟨_, rfl, by rw [hfin.out]; exact hf.out, bgo hb1.out hb.out⟩
end
section
open Go.RowKit
set_option linter.unusedVariables false
attribute [local go_sem ↓] Go.wp_at_zero Go.wp_at_succ
def RecPost (l : Bs) (w : World) (e : Ending) (w' : World) : Prop :=
  ∃ v, e = .returned (.tuple #[v, .int .i64 0]) ∧ SeesB w' w'.heap.size v l ∧ Below w.heap.size w w' ∧ From w.heap.size v
theorem recEnds_len (d : Bs) (sig : List Bs) (h : ∀ k, k < 35 → (sig.getD k []).length = 16) (n : Nat) (hn : n ≤ 35) : (recEnds d sig n).length = 16 * n := by
  induction n with
  | zero => rfl
  | succ n ih => rw [recEnds, List.length_append, ih (by omega), chainH_len _ _ (h n (by omega))]; omega
set_option maxRecDepth 100000 in
theorem recover_any (B : Nat) (u u2 : Value) (d : Bs) (sig : List Bs) (w : World) (hu : SeesB w B u d) (hu2 : SeesL w B u2 sig) (hB : B ≤ w.heap.size) (hd : d.length = 16) (hs : sig.length = 35) (hel : ∀ x ∈ sig, x.length = 16) :
    Calls Try.prog 45 #[u, u2] w (RecPost (recG d sig) w) := by
  obtain ⟨A, c, rfl, hc1, hc2⟩ := hu.mk_
  obtain ⟨AA, cc, rfl, hc3, hc4⟩ := hu2.mk_
  have hdg := digits_any B _ d w hu hB hd
  unfold DigPost at hdg
  have hel' : ∀ k, k < 35 → (sig.getD k []).length = 16 := fun k hk => by
    rw [List.getD_eq_getElem?_getD, List.getElem?_eq_getElem (by omega)]; exact hel _ (List.getElem_mem _)
  have hEl := Lib.hid (recEnds_len d sig hel')
  have hfin : Hid (recG d sig = short (recEnds d sig 35)) := rfl
  have hstep : Hid (∀ n, recEnds d sig (n + 1) = recEnds d sig n ++ chainH (15 - (digs d).getD n 0) (sig.getD n [])) := fun n => rfl
  have hlen := digs_len d
  have hlt16 := digs_get d hd
  rw [hd] at hlen hu hc1 hdg ⊢
  rw [hs] at hu2 hc3 ⊢
  generalize digs d = ds at *
  obtain ⟨b2, o2, rfl, hbB2, hcell2⟩ := hu2.at_ (by omega)
  rw [hs] at hcell2
  replace hcell2 := Lib.hid hcell2
  replace hlen : Hid (ds.length = 35) := hlen
  replace hlt16 := Lib.hid hlt16
  replace hel' := Lib.hid hel'
  replace hs := Lib.hid hs
  replace hd := Lib.hid hd
  replace hdg := Lib.hid hdg
  clear hu2 hel hu
  have hmk := make_560
  go_enter Try.func45, Try.ntmps45
  go_wp2_with fail
  refine hdg.out.mono ?_
  rintro e w1 ⟨v1, rfl, h1, hb1⟩
  obtain ⟨A1, c1, rfl, g1, g2⟩ := h1.sees.mk_
  rw [hlen.out] at g1 ⊢
  have h1' := h1.sees
  rw [hlen.out] at h1'
  obtain ⟨b, o, rfl, hbB, hcell⟩ := h1'.at_ (by rw [hlen.out]; omega)
  rw [hlen.out] at hcell
  replace hcell := Lib.hid hcell
  clear h1 h1'
  replace hb1 := Lib.hid hb1
  dsimp only
  go_wp2_with fail
  obtain ⟨wo, rfl⟩ : ∃ wo : World, wo = w1 := ⟨_, rfl⟩
  refine wp_fresh (fun W => OwnB W wo.heap.size (.slice (some ⟨wo.heap.size, 0, none⟩) 0 560) [] ∧ Below wo.heap.size wo W) ⟨World.ownsRow_made wo _ 560 (Nat.le_refl _) (by unfold maxLen; omega) (size_madeCells _ _), balloc wo _⟩ ?_
  rintro W1 ⟨ho, hb⟩
  replace ho := Lib.hid ho
  replace hb := Lib.hid hb
  clear hdg hmk
  go_loopw [8, 9, 10, 27] (fun r _ _ t wr => ∃ k : Nat, k ≤ 35 ∧ t = .int .i64 k ∧ Hid (OwnB wr wo.heap.size r (recEnds d sig k)) ∧ Hid (Below wo.heap.size wo wr)) (fun _ _ _ t _ => 35 - (intOf t).toNat)
  case atStart => exact ⟨0, by omega, rfl, ho, hb⟩
  case round =>
    clear ho hb
    obtain ⟨k, hk, rfl, ho, hb⟩ := hrel
    by_cases hlt : k < 35
    · have hdk := hlt16.out k hlt
      have hst := Lib.hid (hstep.out k)
      have hal : Hid ((recEnds d sig k).length = 16 * k) := hEl.out k hk
      have hw01 := bgo hb1.out hb.out
      obtain ⟨A5, c5, y0, g3, g4, hsee⟩ := hcell2.out k hlt
      have hxl := Lib.hid (hel'.out k hlt)
      have hch := chain_any _ _ _ ((15 - ds.getD k 0 : Nat) : Int) wr (hsee.below (hw01.mono hB)) (Nat.le_trans hB hw01.size) (by rw [hxl.out]; omega)
      rw [chainN_nat _ (by omega)] at hch
      have x0 := (hb.out.cell (p := ⟨b, o + k, none⟩) hbB).trans (hcell.out k hlt)
      have y1 := (hw01.cell (p := ⟨b2, o2 + k, none⟩) (Nat.lt_of_lt_of_le hbB2 hB)).trans y0
      have hcl16 : Hid ((chainH (15 - ds.getD k 0) (sig.getD k [])).length = 16) := chainH_len _ _ hxl.out
      rw [hxl.out] at y1 hch
      replace hch := Lib.hid hch
      generalize recEnds d sig k = row at *
      generalize sig.getD k [] = x at *
      rw [show (((15 - ds.getD k 0 : Nat)) : Int) = 15 - ((ds.getD k 0 : Nat) : Int) from by omega] at hch
      generalize chainH (15 - ds.getD k 0) x = l at *
      generalize ds.getD k 0 = dk at *
      have i0 : (0 : Int) ≤ (k : Int) := by omega
      have i1 : (k : Int) < 35 := by omega
      have i2 : (dk : Int) < 16 := by omega
      obtain ⟨Ar, cr, rfl, -, -⟩ := ho.out.sees.mk_
      clear hw01 y0 hsee
      go_wp2_with fail
      refine hch.out.mono ?_
      rintro e w3 ⟨v3, rfl, h3, hb3, hf3⟩
      have ho3 := Lib.hid (ho.out.below hb3)
      have hw3 := Lib.hid (bgo hb.out hb3)
      have hl3 := Lib.hid (show row.length + l.length ≤ 140737488355328 by rw [hal.out, hcl16.out]; omega)
      replace h3 := Lib.hid h3
      clear hb3 hch hb ho x0 y1
      dsimp only
      go_wp2_with (at_builtin; refine wpList_app (by rfl) _ _ rfl wo.heap.size _ row rfl ho3.out _ _ l rfl h3.out hl3.out hw3.out.size ?_)
      intro v' w' hW2 hb2
      have hW2 := Lib.hid hW2
      have hb2 := Lib.hid hb2
      go_wp2_with fail
      go_roundw
      case rel => exact ⟨k + 1, by omega, by go_num, by rw [hst.out]; exact hW2.out, hw3.out.trans hb2.out⟩
      case measure => simp [intOf]; omega
    · have hkn : k = 35 := by omega
      rw [hkn] at ho
      have hsh := short_any _ _ _ _ ho.out.sees (Nat.le_refl _) (by rw [hEl.out 35 (by omega)]; omega)
      rw [← hfin.out] at hsh
      replace hsh := Lib.hid hsh
      generalize recEnds d sig 35 = row at *
      replace hkn := Lib.hid hkn
      obtain ⟨Ar, cr, rfl, -, -⟩ := ho.out.sees.mk_
      go_wp2_with fail
      refine hsh.out.mono ?_
      rintro e w2 ⟨v2, rfl, h2, hb2, hf2⟩
      dsimp only
      go_wp2_with fail
      go_returns
      exact ⟨v2, rfl, h2, bgo (bgo hb1.out hb.out) hb2, hf2.mono (bgo hb1.out hb.out).size⟩
end
section
open Go.RowKit
set_option linter.unusedVariables false
attribute [local go_sem ↓] Go.wp_at_zero Go.wp_at_succ
theorem slice_sizeMap : (Try.prog.info? 22).map (·.size) = some 1 := by kernel_rfl
/-- copy into a row that is known whole: only this row's block is turned. -/
theorem wp_copyG {o : Oper} {a : Act} {w : World} {K : Act → World → Prop} {Q : Exit → Act → World → Prop} (d s : Operand) (T : TypeId)
    (ho : o.op = .call { callee := .builtin .copy, args := #[d, s], argTypes := #[T, T] }) (E : TypeId) (hu : Try.prog.underlying T = some (.slice E)) (hsz : (Try.prog.info? E).map (·.size) = some 1)
    (g off dLen dCap : Nat) (ad : Addr) (sLen sCap : Nat) (hd : a.eval d = .slice (some ⟨g, off, none⟩) dLen dCap) (hs : a.eval s = .slice (some ad) sLen sCap)
    (cur : List Value) (t : TypeId) (hg : w.heap[g]? = some (.cells cur.toArray t (0, 0))) (cs : List Value) (hn : cs.length = Nat.min sLen dLen)
    (hsrc : ∀ j v, cs[j]? = some v → w.cell? (ad.add j) = some v) (hfit : off + cs.length ≤ cur.length) (h1 : ∀ v ∈ cs, v.oneCell' = true)
    (h : ∀ w', Hid (w'.heap[g]? = some (.cells (splice cur off cs).toArray t (0, 0))) → w.grownBy w' (some g) → K (a.put o.dst (goInt cs.length)) w') : o.wp Try.prog a w K Q := by
  have hrun := run_copy_row (P := Try.prog) w T T o.type E g off dLen dCap ad sLen sCap cur.toArray t cs hu hsz hg hn hsrc (by simpa using hfit) h1
  unfold Oper.wp
  simp [execOp, ho, resolve, invoke, builtin, hd, hs, hrun, Result.andThen]
  refine h _ (show _ = _ by simpa [splice] using setRow_heap w g _ _ t _ hg) ⟨rfl, rfl, rfl, by simp [World.setRow], fun k hk hne => setRow_other w g k _ (fun e => hne (by rw [e]))⟩
theorem wpList_copyG {ops : Array Oper} {rest : List Oper} {o : Oper} {a : Act} {w : World} {Q : Exit → Act → World → Prop} (hgd : o.guard = none) (d s : Operand) (T : TypeId)
    (ho : o.op = .call { callee := .builtin .copy, args := #[d, s], argTypes := #[T, T] }) (E : TypeId) (hu : Try.prog.underlying T = some (.slice E)) (hsz : (Try.prog.info? E).map (·.size) = some 1)
    (g off dLen dCap : Nat) (ad : Addr) (sLen sCap : Nat) (hd : a.eval d = .slice (some ⟨g, off, none⟩) dLen dCap) (hs : a.eval s = .slice (some ad) sLen sCap)
    (cur : List Value) (t : TypeId) (hg : w.heap[g]? = some (.cells cur.toArray t (0, 0))) (cs : List Value) (hn : cs.length = Nat.min sLen dLen)
    (hsrc : ∀ j v, cs[j]? = some v → w.cell? (ad.add j) = some v) (hfit : off + cs.length ≤ cur.length) (h1 : ∀ v ∈ cs, v.oneCell' = true)
    (h : ∀ w', Hid (w'.heap[g]? = some (.cells (splice cur off cs).toArray t (0, 0))) → w.grownBy w' (some g) → wpList Try.prog ops Q rest (a.put o.dst (goInt cs.length)) w') : wpList Try.prog ops Q (o :: rest) a w :=
  wpList_plain hgd fun _ hK => wp_copyG d s T ho E hu hsz g off dLen dCap ad sLen sCap hd hs cur t hg cs hn hsrc hfit h1 fun w' h2 h3 => hK _ _ (h w' h2 h3)
theorem step_copyG {ops : Array Oper} {o : Oper} {a : Act} {w : World} {K : Act → World → Prop} {Q : Exit → Act → World → Prop} {F : Prop} (hgd : o.guard = none) (d s : Operand) (T : TypeId)
    (ho : o.op = .call { callee := .builtin .copy, args := #[d, s], argTypes := #[T, T] }) (E : TypeId) (hu : Try.prog.underlying T = some (.slice E)) (hsz : (Try.prog.info? E).map (·.size) = some 1)
    (g off dLen dCap : Nat) (ad : Addr) (sLen sCap : Nat) (hd : a.eval d = .slice (some ⟨g, off, none⟩) dLen dCap) (hs : a.eval s = .slice (some ad) sLen sCap)
    (cur : List Value) (t : TypeId) (hg : w.heap[g]? = some (.cells cur.toArray t (0, 0))) (cs : List Value) (hn : cs.length = Nat.min sLen dLen)
    (hsrc : ∀ j v, cs[j]? = some v → w.cell? (ad.add j) = some v) (hfit : off + cs.length ≤ cur.length) (h1 : ∀ v ∈ cs, v.oneCell' = true)
    (h : ∀ w', Hid (w'.heap[g]? = some (.cells (splice cur off cs).toArray t (0, 0))) → w.grownBy w' (some g) → K (a.put o.dst (goInt cs.length)) w') :
    if Region.wanted o (yielded ops a.tmps) = true then Oper.wp Try.prog o a w K Q else F := by
  have hw : Region.wanted o (yielded ops a.tmps) = true := by simp [Region.wanted, hgd]
  rw [if_pos hw]
  exact wp_copyG d s T ho E hu hsz g off dLen dCap ad sLen sCap hd hs cur t hg cs hn hsrc hfit h1 h
theorem zeroL_size (n : Nat) : (Builtin.zeroCells (Value.slice none 0 0).cells n).size = n := by simp [Builtin.zeroCells, Value.cells]
set_option maxRecDepth 100000 in
theorem growL_any (n : Nat) (hn : n ≤ 1099511627776) (w : World) :
    Calls Try.prog 81 #[.slice none 0 0, .int .i64 (n : Int)] w (GivesL [] w) := by
  obtain ⟨i, hi, hz, hs, hb⟩ := info_parts slice_info
  have n0 : ¬ ((n : Int) < 0) := by omega
  go_enter Try.func81, Try.ntmps81
  by_cases h0 : n = 0
  · subst h0
    go_wp2_with fail
    go_ret
    exact ⟨_, rfl, OwnL.nil _ _, Below.refl _ _⟩
  · have h1 : (0 : Int) < (n : Int) := by omega
    have hr := Lib.run_append_nil_zeros (P := Try.prog) w 41 3 41 22 i (.slice none 0 0) .i64 .i64 Try.underlying41 Try.underlying3 hi hz n (by omega) (by omega) (by omega) (by rw [hb]; omega)
    go_wp2_with (at_builtin; refine Lib.wpList_append_run _ rfl _ _ _ _ rfl _ _ rfl rfl _ _ hr ?_)
    go_ret
    refine ⟨.slice (some ⟨w.heap.size, 0, none⟩) 0 (grownCap w n 0 22), rfl, ?_, ((Below.refl _ _).alloc (Nat.le_refl _) _).drew⟩
    have hg := grownCap_ge w n 0 22
    refine ⟨[], (World.ownsRow_made (base := w.heap.size) (e := 22) (size := 1) w _ (grownCap w n 0 22) (Nat.le_refl _) (grownCap_le_maxLen w n 0 22 (by unfold maxLen; omega)) (by
      have h1 := zeroL_size n
      have h2 := zeroL_size (grownCap w n 0 22 - n)
      rw [Array.size_append]
      simp only [Value.cells] at h1 h2 ⊢
      omega)).drew, fun k hk => absurd hk (by simp)⟩
/-- The value shows these rows of lists. -/
def SeesLL (w : World) (B : Nat) (u : Value) (lss : List (List Bs)) : Prop := ∃ vs : List Value, Sees w B u 1 lss.length vs ∧ ∀ k, k < lss.length → ∃ v, vs[k]? = some v ∧ SeesL w B v (lss.getD k [])
theorem SeesLL.mk_ {w : World} {B : Nat} {u : Value} {ls : List (List Bs)} (h : SeesLL w B u ls) : ∃ A c, u = .slice A ls.length c ∧ ls.length ≤ c ∧ c ≤ maxLen := by
  obtain ⟨vs, h, _⟩ := h
  exact h.mk_
theorem SeesLL.at_ {w : World} {B : Nat} {A : Option Addr} {n c : Nat} {ls : List (List Bs)} (h : SeesLL w B (.slice A n c) ls) (hn : 0 < ls.length) :
    ∃ b o, A = some ⟨b, o, none⟩ ∧ b < B ∧ ∀ k, k < ls.length → ∃ A' c', w.cell? ⟨b, o + k, none⟩ = some (.slice A' (ls.getD k []).length c') ∧ (ls.getD k []).length ≤ c' ∧ c' ≤ maxLen ∧ SeesL w B (.slice A' (ls.getD k []).length c') (ls.getD k []) := by
  obtain ⟨vs, hs, hv⟩ := h
  obtain ⟨_, A', c', e, h1, h2, h3⟩ := hs
  injection e with e1 e2 e3
  subst e1 e2 e3
  obtain ⟨b, o, e, hb, hc⟩ := h3 hn
  refine ⟨b, o, e, hb, fun k hk => ?_⟩
  obtain ⟨v, hv1, hv2⟩ := hv k hk
  obtain ⟨A2, c2, rfl, g1, g2⟩ := hv2.mk_
  exact ⟨A2, c2, hc k _ hv1, g1, g2, hv2⟩
theorem flatL_step (ls : List (List Bs)) (k : Nat) (h : k < ls.length) : (ls.take (k + 1)).flatten = (ls.take k).flatten ++ ls.getD k [] := by
  rw [List.take_succ_eq_append_getElem h, List.flatten_append, List.getD_eq_getElem?_getD, List.getElem?_eq_getElem h]
  simp
theorem flatL_le (ls : List (List Bs)) (k : Nat) : (ls.take k).flatten.length ≤ ls.flatten.length := by
  conv => rhs; rw [← List.take_append_drop k ls, List.flatten_append, List.length_append]
  omega
def sumLL (ls : List (List Bs)) (k : Nat) : Nat := (ls.take k).flatten.length
theorem sumLL_step (ls : List (List Bs)) (k : Nat) (h : k < ls.length) : sumLL ls (k + 1) = sumLL ls k + (ls.getD k []).length := by
  rw [sumLL, flatL_step ls k h, List.length_append]; rfl
theorem elts_of_sees {w : World} {B : Nat} {u v : Value} {ls : List Bs} (h : SeesL w B u ls) (hB : B ≤ w.heap.size) (hv : ∀ k, v.ownBlock = some k → B ≤ k) :
    ∃ vs : List Value, Sees w B u 1 ls.length vs ∧ ∀ k, k < ls.length → ∃ y, vs[k]? = some y ∧ Elt w v y (ls.getD k []) := by
  obtain ⟨vs, h1, h2⟩ := h
  exact ⟨vs, h1, fun k hk => by obtain ⟨y, e1, e2⟩ := h2 k hk; exact ⟨y, e1, Elt.of_old e2 hB hv⟩⟩
set_option maxRecDepth 100000 in
theorem concatL_any (B : Nat) (u : Value) (ls : List (List Bs)) (w : World) (hu : SeesLL w B u ls) (hu2 : ∀ W, Below B w W → SeesLL W B u ls) (hB : B ≤ w.heap.size) (hlen : ls.flatten.length ≤ 1048576) :
    Calls Try.prog 68 #[u] w (GivesL ls.flatten w) := by
  obtain ⟨A, c, rfl, hc1, hc2⟩ := hu.mk_
  have hm : ls.length ≤ 9223372036854775807 := by unfold maxLen at hc2; omega
  replace hu2 := Lib.hid hu2
  go_enter Try.func68, Try.ntmps68
  go_wp2_with fail
  go_loopw [3, 5, 11] (fun s _ t wr => ∃ k : Nat, k ≤ ls.length ∧ s = .int .i64 (sumLL ls k : Int) ∧ t = .int .i64 k ∧ wr = w) (fun _ _ t _ => ls.length - (intOf t).toNat)
  case atStart => exact ⟨0, by omega, rfl, rfl, rfl⟩
  case round =>
    obtain ⟨k, hk, rfl, rfl, rfl⟩ := hrel
    by_cases hlt : k < ls.length
    · obtain ⟨b, o, rfl, hb, hcell⟩ := hu.at_ (by omega)
      obtain ⟨A', c', hc, g1, g2, hsee⟩ := hcell k hlt
      have hst := Lib.hid (sumLL_step ls k hlt)
      have hle := flatL_le ls (k + 1)
      have hd : (ls.take (k + 1)).flatten.length = sumLL ls (k + 1) := rfl
      rw [hd, hst.out] at hle
      generalize sumLL ls k = s at *
      generalize ls.getD k [] = m at *
      clear hcell hu hsee hd
      have i0 : (0 : Int) ≤ (k : Int) := by omega
      have i1 : (k : Int) < (ls.length : Int) := by omega
      have i2 : ¬ ((s : Int) + (m.length : Int) < 0) := by omega
      go_wp2_with fail
      go_roundw
      case rel => exact ⟨k + 1, by omega, by rw [hst.out]; rfl, by go_num, trivial⟩
      case measure => simp [intOf]; omega
    · obtain ⟨s, hs⟩ : ∃ s, sumLL ls k = s := ⟨_, rfl⟩
      have hs2 : s ≤ 1048576 := by rw [← hs]; exact Nat.le_trans (flatL_le ls k) hlen
      rw [hs]
      have hB' := Lib.hid hB
      clear hu hB
      go_wp2_with (go_at_call 81; refine (growL_any s (by omega) _).mono ?_; rintro e w' ⟨v, rfl, hW, hbw⟩)
      have hW := Lib.hid hW
      have hbw := Lib.hid hbw
      rename_i kk _ _
      obtain ⟨w, rfl⟩ : ∃ w0 : World, w0 = wr := ⟨_, rfl⟩
      go_loopw [6, 8, 27] (fun r _ t wr => ∃ k : Nat, k ≤ ls.length ∧ t = .int .i64 k ∧ Hid (OwnL wr w.heap.size r (ls.take k).flatten) ∧ Hid (Below w.heap.size w wr)) (fun _ _ t _ => ls.length - (intOf t).toNat)
      case atStart => exact ⟨0, by omega, rfl, hW, hbw⟩
      case round =>
        clear hW hbw
        obtain ⟨k, hk, rfl, hW, hbw⟩ := hrel
        by_cases hlt : k < ls.length
        · obtain ⟨b, o, rfl, hb, hcell⟩ := (hu2.out _ (hbw.out.mono hB'.out)).at_ (by omega)
          obtain ⟨A', c', x0, g1, g2, hsee⟩ := hcell k hlt
          obtain ⟨vs, hs1, hs2'⟩ := elts_of_sees (v := _) hsee (Nat.le_trans hB'.out hbw.out.size) (fun k hk => Nat.le_trans hB'.out (hW.out.lt k hk).1)
          replace hs1 := Lib.hid hs1
          replace hs2' := Lib.hid hs2'
          have hst := Lib.hid (flatL_step ls k hlt)
          have hle := flatL_le ls (k + 1)
          rw [hst.out, List.length_append] at hle
          generalize ls.getD k [] = m at *
          clear hcell hsee
          have i0 : (0 : Int) ≤ (k : Int) := by omega
          have i1 : (k : Int) < (ls.length : Int) := by omega
          go_wp2_with (at_builtin; refine wpList_appE (by rfl) _ _ 41 Try.underlying41 rfl w.heap.size _ _ rfl hW.out B _ m vs rfl hs1.out hs2'.out (by omega) hbw.out.size ?_)
          intro v' w' hW2 hb2
          have hW2 := Lib.hid hW2
          have hb2 := Lib.hid hb2
          go_wp2_with fail
          go_roundw
          case rel => exact ⟨k + 1, by omega, by go_num, by rw [hst.out]; exact hW2.out, hbw.out.trans hb2.out⟩
          case measure => simp [intOf]; omega
        · have he : (ls.take k).flatten = ls.flatten := by rw [List.take_of_length_le (by omega)]
          rw [he] at hW
          go_wp2_with fail
          go_ret
          exact ⟨_, rfl, hW.out, hbw.out⟩
end
section
open Go.RowKit
set_option linter.unusedVariables false
attribute [local go_sem ↓] Go.wp_at_zero Go.wp_at_succ
theorem own_cons {w w' : World} {base g n c : Nat} {y : Value} {x : Bs} {ls : List Bs} {vs rest : List Value} (hg : w.grownBy w' (some g)) (hh : w'.heap[g]? = some (.cells (y :: vs ++ rest).toArray 22 (0, 0)))
    (hn : n = ls.length + 1) (hc : (y :: vs ++ rest).length = c) (hcm : c ≤ maxLen) (hv : vs.length = ls.length) (hb : base ≤ g) (A : Value) (hA : A.ownBlock = some g)
    (hx : Elt w A y x) (hel : ∀ k, k < ls.length → ∃ u, vs[k]? = some u ∧ Elt w A u (ls.getD k [])) :
    OwnL w' base (.slice (some ⟨g, 0, none⟩) n c) (x :: ls) := by
  subst hn
  have hst : ∀ {u : Value} {m : Bs}, Elt w A u m → Elt w' (.slice (some ⟨g, 0, none⟩) (ls.length + 1) c) u m := fun {u m} hu => ⟨hu.grown (by rw [hA]; exact hg), fun hm k hk => by
    have := hu.2 hm k hk
    rw [hA] at this
    exact this⟩
  refine ⟨y :: vs, ⟨by simp [hv], .inr ⟨g, c, (y :: vs ++ rest).toArray, rfl, hb, hh, ?_, hcm, by rw [List.size_toArray, hc, Nat.mul_one], ?_⟩⟩, fun k hk => ?_⟩
  · rw [← hc]; simp only [List.cons_append, List.length_cons, List.length_append]; omega
  · rw [Nat.mul_one, List.take_append_of_le_length (by simp [hv]), List.take_of_length_le (by simp [hv])]
  · cases k with
    | zero => exact ⟨y, rfl, hst hx⟩
    | succ k =>
      obtain ⟨u, e1, e2⟩ := hel k (by simpa using hk)
      exact ⟨u, by simpa using e1, by simpa using hst e2⟩
theorem run_append_cut_zeros {P : Program} (w : World) (t tn ty e : TypeId) (i : TypeInfo) (z : Value) (k kn : IntKind) (ht : P.underlying t = some (.slice e)) (htn : P.underlying tn = some (.int kn)) (hi : P.info? e = some i) (hz : i.zero = some z)
    (a : Addr) (c n : Nat) (h0 : c < n) (hs : i.size = 1) (hn : n ≤ 1000) (hb : i.bytes ≤ 1000) (hc : n ≤ 2 * c) (hc2 : c < 256) :
    (Builtin.append_ #[t, tn] ty #[.slice (some a) 0 c, .int k n]).run P w =
      .ok (.slice (some ⟨w.heap.size, 0, none⟩) n (grownCap w n c e)) (w.drew.alloc (.cells (Builtin.zeroCells z.cells n ++ Builtin.zeroCells z.cells (grownCap w n c e - n)) e)) := by
  have hn0 : n ≠ 0 := by omega
  have hw : IntKind.i64.wrap (n : Int) = n := by rw [IntKind.wrap_i64]; omega
  have h63' : ¬ (9223372036854775807 < (n : Int)) := by omega
  have hcap : Builtin.nextslicecap n c = 2 * c := by unfold Builtin.nextslicecap; rw [if_neg (by omega), if_pos hc2]
  have h48' : ¬ (281474976710656 < 2 * c * i.bytes) := by
    have : 2 * c * i.bytes ≤ 512 * 1000 := Nat.mul_le_mul (by omega) hb
    omega
  have h48i : ¬ (281474976710656 < (n : Int) * (i.bytes : Int)) := by
    have : n * i.bytes ≤ 1000 * 1000 := Nat.mul_le_mul hn hb
    have : ((n * i.bytes : Nat) : Int) ≤ 1000000 := by omega
    rw [Int.natCast_mul] at this
    omega
  have hneg : ¬ ((n : Int) < 0) := by omega
  have hnc : ¬ (n ≤ c) := by omega
  have hf := run_firstCells_some (P := P) w.drew 1 0 a 0 c [] rfl (by simp)
  simp [Builtin.append_, run_underlying ht, run_underlying htn, sizeOf, typeInfo, zeroValue, hi, hz, hs, asInt, asIntOf, hw, hn0, hneg, h63', hcap, h48', h48i, hnc, Question.forced, hf, newRow, grownCap]
theorem call_overlaps (args : Array Value) (w : World) : (callFunc 79 args).run Try.prog w = ((Extern.SlicesOverlaps.overlaps #[41, 41] #[4] args).run Try.prog w).andThen fun v w' => .ok (.value v) w' :=
  run_callFunc_extern Try.func79 (by kernel_rfl) (by kernel_rfl) (by kernel_rfl) (by kernel_rfl) args w
def InsPost (base : Nat) (ls : List Bs) (w : World) (e : Ending) (w' : World) : Prop := ∃ v, e = .returned v ∧ OwnL w' base v ls ∧ Below base w w'
theorem splice_head (cur vs : List Value) (y : Value) (n : Nat) (h : cur.take n = vs) (hn : n + 1 ≤ cur.length) : splice (splice cur 1 vs) 0 [y] = y :: vs ++ cur.drop (n + 1) := by
  subst h
  have hl : (cur.take n).length = n := by rw [List.length_take]; omega
  match cur, hn with
  | a :: cur, hn =>
    simp [splice, hl, Nat.add_comm]
theorem splice_head2 (Z vs : List Value) (y : Value) (n : Nat) (h : vs.length = n) (hn : n + 1 ≤ Z.length) : splice (splice Z 0 [y]) 1 vs = y :: vs ++ Z.drop (n + 1) := by
  subst h
  match Z, hn with
  | a :: Z, hn => simp [splice, Nat.add_comm]
set_option maxRecDepth 100000 in
theorem insert_any (base g gb n c : Nat) (y : Value) (x : Bs) (ls : List Bs) (w : World) (hown : OwnL w base (.slice (some ⟨g, 0, none⟩) n c) ls) (hn1 : 1 ≤ ls.length) (hn2 : ls.length ≤ 200) (hbx : Box w gb 22 [y]) (hne : gb ≠ g) (hx : Elt w (.slice (some ⟨g, 0, none⟩) n c) y x) (hbase : base ≤ w.heap.size) :
    Calls Try.prog 67 #[.slice (some ⟨g, 0, none⟩) n c, .int .i64 0, .slice (some ⟨gb, 0, none⟩) 1 1] w (InsPost base (x :: ls) w) := by
  have hlt := hown.lt g rfl
  obtain ⟨vs, hrow, hel⟩ := hown
  have hvl : vs.length = ls.length := by rw [hrow.1, Nat.mul_one]
  have hroom : ∃ cur : List Value, w.heap[g]? = some (.cells cur.toArray 22 (0, 0)) ∧ n = ls.length ∧ n ≤ c ∧ c ≤ maxLen ∧ cur.length = c ∧ cur.take n = vs := by
    rcases hrow.2 with ⟨e, _⟩ | ⟨g', c', cur, e, _, h1, h2, h3, h4, h5⟩
    · cases e
    · injection e with e1 e2 e3
      injection e1 with e1
      injection e1 with e1
      subst e1 e3 e2
      exact ⟨cur.toList, by simpa using h1, rfl, h2, h3, by simpa using h4, by simpa using h5⟩
  obtain ⟨cur, hg, rfl, hnc, hcm, hcl, htk⟩ := hroom
  have hvs1 : ∀ v ∈ vs, v.oneCell' = true := by
    intro v hv
    obtain ⟨k, hk⟩ := List.mem_iff_getElem?.1 hv
    obtain ⟨u, e1, e2⟩ := hel k (by have := (List.getElem?_eq_some_iff.1 hk).1; omega)
    rw [hk] at e1
    cases e1
    obtain ⟨A, c', rfl, -, -⟩ := e2.1.mk_
    rfl
  have hy1 : y.oneCell' = true := by
    obtain ⟨A, c', rfl, -, -⟩ := hx.1.mk_
    rfl
  have r0 : ∀ W, (Instr.slice 41 (.slice (some ⟨g, 0, none⟩) ls.length c) (some (.int .i64 0)) none none).run Try.prog W = .ok (.slice (some ⟨g, 0, none⟩) ls.length c) W := fun W => by
    have := run_cut_from (P := Try.prog) 41 Try.underlying41 1 slice_size (some ⟨g, 0, none⟩) ls.length c .i64 0 (by omega) (by omega) W
    rw [show (0 : Int).toNat = 0 from rfl, cutA_zero] at this
    exact this
  have j0 : ((0 : Int) == (ls.length : Int)) = false := by rw [beq_eq_false_iff_ne]; omega
  have hm : (ls.length : Int) ≤ 200 := by omega
  replace hrow := Lib.hid hrow
  replace hel := Lib.hid hel
  by_cases hfit : ls.length + 1 ≤ c
  · have j1 : ¬ ((c : Int) < (ls.length : Int) + 1) := by omega
    have r1 : ∀ W, (Instr.slice 41 (.slice (some ⟨g, 0, none⟩) ls.length c) none (some (.int .i64 ((ls.length : Int) + 1))) none).run Try.prog W = .ok (.slice (some ⟨g, 0, none⟩) (ls.length + 1) c) W := fun W => by
      have := run_cut_to (P := Try.prog) 41 Try.underlying41 1 slice_size (some ⟨g, 0, none⟩) ls.length c .i64 ((ls.length : Int) + 1) (by omega) (by omega) W
      rw [cutA_zero, show ((ls.length : Int) + 1).toNat = ls.length + 1 from by omega] at this
      exact this
    have r2 : ∀ W, (Instr.slice 41 (.slice (some ⟨g, 0, none⟩) (ls.length + 1) c) (some (.int .i64 1)) none none).run Try.prog W = .ok (.slice (some ⟨g, 1, none⟩) ls.length (c - 1)) W := fun W => by
      have := run_cut_from (P := Try.prog) 41 Try.underlying41 1 slice_size (some ⟨g, 0, none⟩) (ls.length + 1) c .i64 1 (by omega) (by omega) W
      rw [show (1 : Int).toNat = 1 from rfl, cutA, if_neg (by omega), Option.map_some, add_zero'] at this
      exact this
    have r3 : ∀ W, (Instr.slice 41 (.slice (some ⟨g, 0, none⟩) (ls.length + 1) c) (some (.int .i64 0)) none none).run Try.prog W = .ok (.slice (some ⟨g, 0, none⟩) (ls.length + 1) c) W := fun W => by
      have := run_cut_from (P := Try.prog) 41 Try.underlying41 1 slice_size (some ⟨g, 0, none⟩) (ls.length + 1) c .i64 0 (by omega) (by omega) W
      rw [show (0 : Int).toNat = 0 from rfl, cutA_zero] at this
      exact this
    have hov : (callFunc 79 #[.slice (some ⟨gb, 0, none⟩) 1 1, .slice (some ⟨g, 1, none⟩) ls.length (c - 1)]).run Try.prog w = .ok (.value (.bool false)) w := by
      rw [call_overlaps, Lib.run_overlaps_apart w 41 4 22 Try.underlying41 1 slice_size ⟨gb, 0, none⟩ ⟨g, 1, none⟩ 1 1 ls.length (c - 1) hne 22 22 1 c
        (by have : w.heap[gb]? = _ := hbx; simp [World.shape?, this]) (by simp [World.shape?, hg, hcl]) (by omega) (hbx.frozen 0) (hbx.frozen 1)]
      rfl
    replace hov := hov
    have hsz : (splice cur 1 vs).length = c := by rw [length_splice _ _ _ (by omega), hcl]
    have hspl := Lib.hid (splice_head cur vs y ls.length htk (by omega))
    have hy0 : w.cell? ⟨gb, 0, none⟩ = some y := hbx.cell 0
    have hvc : ∀ j v, vs[j]? = some v → w.cell? ((⟨g, 0, none⟩ : Addr).add j) = some v := fun j v hj => by
      rw [add_zero', Nat.zero_add, block_cell hg, ← hj, ← htk, List.getElem?_take, if_pos (by have := (List.getElem?_eq_some_iff.1 hj).1; omega)]
    replace hg := Lib.hid hg
    replace hvl := Lib.hid hvl
    replace hvc := Lib.hid hvc
    replace htk := Lib.hid htk
    replace hy0 := Lib.hid hy0
    replace hcl := Lib.hid hcl
    replace hsz := Lib.hid hsz
    clear hbx
    go_enter Try.func67, Try.ntmps67
    have m1 : IntKind.i64.wrap 1 = 1 := by decide +kernel
    have m2 : (1 : Int) ≤ (ls.length : Int) + 1 := by omega
    have hmin : Hid (vs.length = Nat.min (ls.length + 1) ls.length) := by show _ = _; rw [hvl.out]; exact (Nat.min_eq_right (by omega)).symm
    have hmin2 : Hid ([y].length = Nat.min 1 (ls.length + 1)) := by show _ = _; simp
    go_wp2_with fail
    go_region_held3 (fun W' : World => True) (trivial)
      ((refine step_copyG (by rfl) (.tmp 73) (.tmp 76) 41 (by rfl) 22 Try.underlying41 slice_sizeMap g 1 ls.length (c - 1) ⟨g, 0, none⟩ (ls.length + 1) c (by rfl) (by rfl) cur 22 hg.out vs hmin.out hvc.out (by rw [hvl.out, hcl.out]; omega) hvs1 ?_; intro w3 hg3 hb3))
    all_goals
      replace hb3 : Hid (w.grownBy w3 (some g)) := ⟨hb3.os, hb3.tape, hb3.output, hb3.size, hb3.block⟩
      have hy3 : Hid (∀ j v, [y][j]? = some v → w3.cell? ((⟨gb, 0, none⟩ : Addr).add j) = some v) := fun j v hj => by
        have hj0 : j = 0 := by
          have := (List.getElem?_eq_some_iff.1 hj).1
          simp at this; omega
        subst hj0
        cases hj
        rw [add_zero']
        exact hb3.out.cell hy0.out (by intro e; injection e with e; exact hne e)
      go_wp2_with (refine wpList_copyG rfl (.tmp 80) (.tmp 81) 41 rfl 22 Try.underlying41 slice_sizeMap g 0 (ls.length + 1) c ⟨gb, 0, none⟩ 1 1 rfl rfl (splice cur 1 vs) 22 hg3.out [y] hmin2.out hy3.out (by rw [hsz.out]; simp; omega) (by simpa using hy1) ?_; intro w4 hg4 hb4)
      rw [hspl.out] at hg4
      go_ret
      have hb34 : w.grownBy w4 (some g) := ggo hb3.out hb4
      refine ⟨_, rfl, own_cons hb34 hg4.out rfl (by rw [← hspl.out, length_splice _ _ _ (by rw [hsz.out]; simp; omega), hsz.out]) hcm hvl.out hlt.1 (.slice (some ⟨g, 0, none⟩) ls.length c) rfl hx hel.out, ?_⟩
      exact ⟨hb34.os, hb34.tape, hb34.output, hb34.size, fun k hk => hb34.block k (by omega) (by intro e; injection e with e; omega)⟩
  · obtain rfl : c = ls.length := by omega
    obtain ⟨i, hi, hz, hs, hby⟩ := info_parts slice_info
    have j1 : (ls.length : Int) < (ls.length : Int) + 1 := by omega
    have hr := run_append_cut_zeros (P := Try.prog) w 41 3 41 22 i (.slice none 0 0) .i64 .i64 Try.underlying41 Try.underlying3 hi hz ⟨g, 0, none⟩ ls.length (ls.length + 1) (by omega) hs (by omega) (by rw [hby]; omega) (by omega) (by omega)
    have hN := grownCap_ge w (ls.length + 1) ls.length 22
    have hNm := grownCap_le_maxLen w (ls.length + 1) ls.length 22 (by unfold maxLen; omega)
    have hZ : (Builtin.zeroCells (Value.slice none 0 0).cells (ls.length + 1) ++ Builtin.zeroCells (Value.slice none 0 0).cells (grownCap w (ls.length + 1) ls.length 22 - (ls.length + 1))).size = grownCap w (ls.length + 1) ls.length 22 := by
      rw [Array.size_append, zeroL_size, zeroL_size]; omega
    generalize grownCap w (ls.length + 1) ls.length 22 = N at *
    generalize Builtin.zeroCells (Value.slice none 0 0).cells (ls.length + 1) ++ Builtin.zeroCells (Value.slice none 0 0).cells (N - (ls.length + 1)) = Z at *
    have r1 : ∀ W, (Instr.slice 41 (.slice (some ⟨g, 0, none⟩) ls.length ls.length) none (some (.int .i64 0)) none).run Try.prog W = .ok (.slice (some ⟨g, 0, none⟩) 0 ls.length) W := fun W => by
      have := run_cut_to (P := Try.prog) 41 Try.underlying41 1 slice_size (some ⟨g, 0, none⟩) ls.length ls.length .i64 0 (by omega) (by omega) W
      rw [cutA_zero, show (0 : Int).toNat = 0 from rfl] at this
      exact this
    have r2 : ∀ W, (Instr.slice 41 (.slice (some ⟨w.heap.size, 0, none⟩) (ls.length + 1) N) (some (.int .i64 1)) none none).run Try.prog W = .ok (.slice (some ⟨w.heap.size, 1, none⟩) ls.length (N - 1)) W := fun W => by
      have := run_cut_from (P := Try.prog) 41 Try.underlying41 1 slice_size (some ⟨w.heap.size, 0, none⟩) (ls.length + 1) N .i64 1 (by omega) (by omega) W
      rw [show (1 : Int).toNat = 1 from rfl, cutA, if_neg (by omega), Option.map_some, add_zero'] at this
      exact this
    have r3 : ∀ W, (Instr.slice 41 (.slice (some ⟨w.heap.size, 0, none⟩) (ls.length + 1) N) (some (.int .i64 0)) none none).run Try.prog W = .ok (.slice (some ⟨w.heap.size, 0, none⟩) (ls.length + 1) N) W := fun W => by
      have := run_cut_from (P := Try.prog) 41 Try.underlying41 1 slice_size (some ⟨w.heap.size, 0, none⟩) (ls.length + 1) N .i64 0 (by omega) (by omega) W
      rw [show (0 : Int).toNat = 0 from rfl, cutA_zero] at this
      exact this
    have hg1 : (w.drew.alloc (.cells Z 22)).heap[w.heap.size]? = some (.cells Z.toList.toArray 22 (0, 0)) := by
      rw [Array.toArray_toList]; exact heap_alloc_new w.drew _
    have hb1 : Below w.heap.size w (w.drew.alloc (.cells Z 22)) := (bdrew w).trans (balloc w.drew _)
    have hgb := hbx.lt
    have hy0 : ∀ j v, [y][j]? = some v → (w.drew.alloc (.cells Z 22)).cell? ((⟨gb, 0, none⟩ : Addr).add j) = some v := fun j v hj => by
      have hj0 : j = 0 := by
        have := (List.getElem?_eq_some_iff.1 hj).1
        simp at this; omega
      subst hj0
      cases hj
      rw [add_zero']
      exact (hb1.cell (p := ⟨gb, 0, none⟩) hgb).trans (hbx.cell 0)
    have hvc : ∀ j v, vs[j]? = some v → (w.drew.alloc (.cells Z 22)).cell? ((⟨g, 0, none⟩ : Addr).add j) = some v := fun j v hj => by
      rw [add_zero', Nat.zero_add]
      refine (hb1.cell (p := ⟨g, j, none⟩) hlt.2).trans ?_
      rw [block_cell hg, ← hj, ← htk, List.getElem?_take, if_pos (by have := (List.getElem?_eq_some_iff.1 hj).1; omega)]
    have hsz : (splice Z.toList 0 [y]).length = N := by rw [length_splice _ _ _ (by simp; omega)]; simpa using hZ
    have hspl := Lib.hid (splice_head2 Z.toList vs y ls.length hvl (by simp; omega))
    have hmin : Hid (vs.length = Nat.min ls.length ls.length) := by show _ = _; rw [hvl]; exact (Nat.min_self _).symm
    have hmin2 : Hid ([y].length = Nat.min 1 (ls.length + 1)) := by show _ = _; simp
    have hxA : Elt w (.slice (some ⟨w.heap.size, 0, none⟩) 0 0) y x := ⟨hx.1, fun hl k hk e => by cases e; exact absurd (hx.1.blk hl _ hk) (by dsimp only; omega)⟩
    have helA : ∀ k, k < ls.length → ∃ u, vs[k]? = some u ∧ Elt w (.slice (some ⟨w.heap.size, 0, none⟩) 0 0) u (ls.getD k []) := fun k hk => by
      obtain ⟨u, e1, e2⟩ := hel.out k hk
      exact ⟨u, e1, e2.1, fun hl k hk e => by cases e; exact absurd (e2.1.blk hl _ hk) (by dsimp only; omega)⟩
    replace hg1 := Lib.hid hg1
    replace hb1 := Lib.hid hb1
    replace hvl := Lib.hid hvl
    replace hvc := Lib.hid hvc
    replace hy0 := Lib.hid hy0
    replace hsz := Lib.hid hsz
    replace hZ := Lib.hid hZ
    replace hxA := Lib.hid hxA
    replace helA := Lib.hid helA
    replace hr := Lib.hid hr
    have m1 : IntKind.i64.wrap 1 = 1 := by decide +kernel
    have m2 : (1 : Int) ≤ (ls.length : Int) + 1 := by omega
    clear hbx hg htk hcl hel hrow hx hi hz hs hby hfit hgb
    go_enter Try.func67, Try.ntmps67
    go_wp2_with (first
      | (at_builtin; refine Lib.wpList_append_run _ rfl _ _ _ _ rfl _ _ rfl rfl _ _ hr.out ?_)
      | (refine wpList_copyG rfl (.tmp 43) (.tmp 44) 41 rfl 22 Try.underlying41 slice_sizeMap w.heap.size 0 (ls.length + 1) N ⟨gb, 0, none⟩ 1 1 rfl rfl Z.toList 22 hg1.out [y] hmin2.out hy0.out (by have := hZ.out; simp; omega) (by simpa using hy1) ?_; intro w3 hg3 hb3))
    replace hb3 : Hid (w.grownBy w3 (some w.heap.size)) := ggo (gbelow hb1.out) ⟨hb3.os, hb3.tape, hb3.output, hb3.size, hb3.block⟩
    have hvc3 : Hid (∀ j v, vs[j]? = some v → w3.cell? ((⟨g, 0, none⟩ : Addr).add j) = some v) := fun j v hj => by
      have h1 := hvc.out j v hj
      rw [add_zero'] at h1 ⊢
      have h2 := hb1.out.cell (p := ⟨g, 0 + j, none⟩) hlt.2
      exact (World.cell?_of_block (hb3.out.block g hlt.2 (by intro e; injection e with e; omega))).trans (h2.symm.trans h1)
    go_region_held3 (fun W' : World => True) (trivial)
      ((refine step_copyG (by rfl) (.tmp 50) (.tmp 53) 41 (by rfl) 22 Try.underlying41 slice_sizeMap w.heap.size 1 ls.length (N - 1) ⟨g, 0, none⟩ ls.length ls.length (by rfl) (by rfl) (splice Z.toList 0 [y]) 22 hg3.out vs hmin.out hvc3.out (by rw [hvl.out, hsz.out]; omega) hvs1 ?_; intro w4 hg4 hb4))
    all_goals
      replace hb4 : Hid (w3.grownBy w4 (some w.heap.size)) := ⟨hb4.os, hb4.tape, hb4.output, hb4.size, hb4.block⟩
      go_wp2_with fail
      rw [hspl.out] at hg4
      go_ret
      have hb34 : w.grownBy w4 (some w.heap.size) := ggo hb3.out hb4.out
      refine ⟨_, rfl, own_cons hb34 hg4.out rfl (by rw [← hspl.out, length_splice _ _ _ (by rw [hsz.out, hvl.out]; omega), hsz.out]) hNm hvl.out hbase (.slice (some ⟨w.heap.size, 0, none⟩) 0 0) rfl hxA.out helA.out, ?_⟩
      exact ⟨hb34.os, hb34.tape, hb34.output, hb34.size, fun k hk => hb34.block k (by omega) (by intro e; injection e with e; omega)⟩
end
section
open Go.RowKit
set_option linter.unusedVariables false
attribute [local go_sem ↓] Go.wp_at_zero Go.wp_at_succ
theorem seesB_of {w W : World} {B : Nat} {v : Value} {l : Bs} (h : SeesB w B v l) (hB : B ≤ w.heap.size) (hb : Below w.heap.size w W) : SeesB W W.heap.size v l := (h.below (hb.mono hB)).more (Nat.le_trans hB hb.size)
/-- Join of a list that is written out. -/
theorem join_lit {vs : List Value} (ls : List Bs) (w0 W : World) (G : Nat) (hG : W.heap.size = G) (hw : Below w0.heap.size w0 W) (h : SeesAll W W.heap.size vs ls) (hm : vs.length ≤ 16) (hl : ls.flatten.length ≤ 1099511627776) :
    Calls Try.prog 66 #[.slice (some ⟨G, 0, none⟩) vs.length vs.length] (W.alloc (.cells vs.toArray 22)) fun e w' => ∃ v, e = .returned v ∧ OwnB w' w0.heap.size v ls.flatten ∧ Below w0.heap.size w0 w' := by
  subst hG
  exact (join_any _ _ ls _ (seesL_lit W 22 h (by unfold maxLen; omega)) (Nat.le_refl _) hl).mono fun _ _ ⟨v, h1, h2, h3⟩ => ⟨v, h1, h2.mono (Nat.le_trans hw.size (balloc W _).size), bgo hw (bgo (balloc W _) h3)⟩
set_option maxRecDepth 100000 in
theorem sbegin_any (h i : Nat) (w : World) (hh : h < 256) (hi : i < 4294967296) :
    Calls Try.prog 69 #[.agg #[.int .i64 (h : Int), .int .i64 (i : Int)]] w (Gives ([UInt8.ofNat h] ++ putB 4 i) w) := by
  have m0 : IntKind.u8.wrap (h : Int) = (h : Int) := by rw [IntKind.wrap_u8]; omega
  have m1 : IntKind.u64.wrap (i : Int) = (i : Int) := by rw [IntKind.wrap_u64]; omega
  have hx : ((UInt8.ofNat h).toNat : Int) = (h : Int) := by simp; omega
  have hp := Lib.hid (put4_any i (by omega))
  have hfl : Hid ([[UInt8.ofNat h], putB 4 i].flatten = [UInt8.ofNat h] ++ putB 4 i) := by show _ = _; simp
  have hl4 := Lib.hid (putB_len 4 i)
  replace hx := Lib.hid hx
  go_enter Try.func69, Try.ntmps69
  go_wp2_with fail
  have hb0 := balloc w (.cells #[.int .i64 (h : Int), .int .i64 (i : Int)] 71)
  have hbx := Box.new w 71 [.int .i64 (h : Int), .int .i64 (i : Int)]
  change Code.wp _ _ _ _ (w.alloc (.cells #[.int .i64 (h : Int), .int .i64 (i : Int)] 71))
  have hlt : w.heap.size < (w.alloc (.cells #[.int .i64 (h : Int), .int .i64 (i : Int)] 71)).heap.size := hbx.lt
  generalize w.alloc (.cells #[.int .i64 (h : Int), .int .i64 (i : Int)] 71) = w0 at *
  have c0 : w0.cell? ⟨w.heap.size, 0, none⟩ = some (.int .i64 (h : Int)) := hbx.cell 0
  have c1 : w0.cell? ⟨w.heap.size, 1, none⟩ = some (.int .i64 (i : Int)) := hbx.cell 1
  have hg0 := Lib.hid (Eq.refl w.heap.size)
  obtain ⟨g0, hg⟩ : ∃ g0, g0 = w.heap.size := ⟨_, rfl⟩
  rw [← hg] at c0 c1 hlt ⊢
  replace hg := Lib.hid hg
  replace hb0 := Lib.hid hb0
  clear hbx hg0
  have K : Hid (∀ W : World, Below w0.heap.size w0 W → W.cell? ⟨g0, 0, none⟩ = some (.int .i64 (h : Int)) ∧ W.cell? ⟨g0, 1, none⟩ = some (.int .i64 (i : Int))) :=
    fun W hW => ⟨(hW.cell (p := ⟨g0, 0, none⟩) hlt).trans c0, (hW.cell (p := ⟨g0, 1, none⟩) hlt).trans c1⟩
  go_region_held3 (fun W' : World => W'.cell? ⟨g0, 0, none⟩ = some (.int .i64 (h : Int)) ∧ W'.cell? ⟨g0, 1, none⟩ = some (.int .i64 (i : Int)))
    (first | exact K.out _ hb3 | (refine K.out _ ?_; (repeat (first | exact Below.refl _ _ | (refine bgo ?_ (balloc _ _)) | (refine bgo ?_ (bdrew _)) | (refine bgo ?_ (by assumption)))); done) | (go_keep; done))
    (first
      | (go_at_call 66; refine (join_lit (vs := [_, _]) [[UInt8.ofNat h], putB 4 i] w0 _ _ ?_ ?_ ⟨?_, ?_, trivial⟩ (by simp) (by rw [hfl.out]; simp [hl4.out])).mono ?_
         focus (first | rfl | (simp; done))
         focus ((repeat (first | exact Below.refl _ _ | (refine bgo ?_ (balloc _ _)) | (refine bgo ?_ (bdrew _)) | (refine bgo ?_ (by assumption)))); done)
         focus (first | (refine seesB_of (one_byte w0 _ _ hx.out).sees (Nat.le_refl _) ?_; (repeat (first | exact Below.refl _ _ | (refine bgo ?_ (balloc _ _)) | (refine bgo ?_ (bdrew _)) | (refine bgo ?_ (by assumption)))); done) | (refine seesB_of (one_byte w1 _ _ hx.out).sees (Nat.le_refl _) ?_; (repeat (first | exact Below.refl _ _ | (refine bgo ?_ (balloc _ _)) | (refine bgo ?_ (bdrew _)) | (refine bgo ?_ (by assumption)))); done))
         focus (refine seesB_of h1.sees (Nat.le_refl _) ?_; (repeat (first | exact Below.refl _ _ | (refine bgo ?_ (balloc _ _)) | (refine bgo ?_ (bdrew _)) | (refine bgo ?_ (by assumption)))); done)
         rintro e w3 ⟨v3, rfl, h3, hb3⟩)
      | (go_at_call 56; refine (hp.out _).mono ?_; rintro e w1 ⟨v1, rfl, h1, hb1⟩; obtain ⟨A1, c1', rfl, -, -⟩ := h1.sees.mk_))
  all_goals
    go_wp2_with fail
    go_ret
    rw [hfl.out] at h3
    exact ⟨v3, rfl, h3.mono hb0.out.size, bgo hb0.out hb3⟩
set_option maxRecDepth 100000 in
theorem digest_any (B : Nat) (u u2 : Value) (p m : Bs) (i : Nat) (w : World) (hu : SeesB w B u p) (hu2 : SeesB w B u2 m) (hB : B ≤ w.heap.size) (hp : p.length ≤ 1048576) (hm : m.length ≤ 1048576) (hi : i < 4294967296) :
    Calls Try.prog 40 #[u, .int .i64 (i : Int), u2] w (Shows (digG p i m) w) := by
  obtain ⟨A, c, rfl, -, -⟩ := hu.mk_
  obtain ⟨AA, cc, rfl, -, -⟩ := hu2.mk_
  have m1 : IntKind.u64.wrap (i : Int) = (i : Int) := by rw [IntKind.wrap_u64]; omega
  have hput := Lib.hid (put4_any i (by omega) w)
  have hl4 := putB_len 4 i
  have hdef : Hid (short (putB 4 i |> fun x => p ++ x ++ m) = digG p i m) := rfl
  replace hu := Lib.hid hu
  replace hu2 := Lib.hid hu2
  go_enter Try.func40, Try.ntmps40
  go_wp2_with fail
  refine hput.out.mono ?_
  rintro e w1 ⟨v1, rfl, h1, hb1⟩
  obtain ⟨A1, c1, rfl, -, -⟩ := h1.sees.mk_
  have hfl : [p, putB 4 i, m].flatten = p ++ putB 4 i ++ m := by simp
  have hj := Lib.hid (join_lit (vs := [.slice A p.length c, .slice A1 (putB 4 i).length c1, .slice AA m.length cc]) [p, putB 4 i, m] w1 w1 w1.heap.size rfl (Below.refl _ _) ⟨seesB_of (hu.out.more hB) (Nat.le_refl _) hb1, h1.sees, seesB_of (hu2.out.more hB) (Nat.le_refl _) hb1, trivial⟩ (by simp) (by rw [hfl]; simp [hl4]; omega))
  rw [hfl] at hj
  replace hfl := Lib.hid hfl
  replace hb1 := Lib.hid hb1
  have hln : (p ++ putB 4 i ++ m).length ≤ 1099511627776 := by simp [hl4]; omega
  clear h1 hl4
  dsimp only
  go_wp2_with fail
  refine hj.out.mono ?_
  rintro e w2 ⟨v2, rfl, h2, hb2⟩
  have hs := Lib.hid (short_any _ _ _ _ h2.sees (Nat.le_refl _) hln)
  clear hln hj
  dsimp only
  go_wp2_with fail
  refine hs.out.mono ?_
  rintro e w3 ⟨v3, rfl, h3, hb3, hf3⟩
  dsimp only
  go_wp2_with fail
  go_ret
  exact ⟨v3, rfl, h3, bgo (bgo hb1.out hb2) hb3, hf3.mono (bgo hb1.out hb2).size⟩
end
section
open Go.RowKit
set_option linter.unusedVariables false
attribute [local go_sem ↓] Go.wp_at_zero Go.wp_at_succ
theorem seesL_of {w W : World} {B : Nat} {v : Value} {l : List Bs} (h : SeesL w B v l) (hB : B ≤ w.heap.size) (hb : Below w.heap.size w W) : SeesL W W.heap.size v l := (h.below (hb.mono hB)).more (Nat.le_trans hB hb.size)
theorem seesLL_two (W : World) (v1 v2 : Value) (l1 l2 : List Bs) (h1 : SeesL W W.heap.size v1 l1) (h2 : SeesL W W.heap.size v2 l2) (W2 : World) (hb : Below (W.alloc (.cells #[v1, v2] 41)).heap.size (W.alloc (.cells #[v1, v2] 41)) W2) :
    SeesLL W2 (W.alloc (.cells #[v1, v2] 41)).heap.size (.slice (some ⟨W.heap.size, 0, none⟩) 2 2) [l1, l2] := by
  have hbx := Box.below (Box.new W 41 [v1, v2]) hb
  have hal := balloc W (.cells #[v1, v2] 41)
  refine ⟨[v1, v2], ⟨rfl, _, 2, rfl, Nat.le_refl _, by unfold maxLen; omega, fun _ => ⟨W.heap.size, 0, rfl, by simp, fun j u hj => ?_⟩⟩, fun k hk => ?_⟩
  · rw [Nat.zero_add, hbx.cell j]; exact hj
  · have hh : ∀ {v : Value} {l : List Bs}, SeesL W W.heap.size v l → SeesL W2 (W.alloc (.cells #[v1, v2] 41)).heap.size v l := fun h => ((h.below hal).below (hb.mono hal.size)).more hal.size
    rcases (by simp at hk; omega : k = 0 ∨ k = 1) with rfl | rfl
    · exact ⟨v1, rfl, hh h1⟩
    · exact ⟨v2, rfl, hh h2⟩
theorem concat_lit (W : World) (v1 v2 : Value) (l1 l2 : List Bs) (h1 : SeesL W W.heap.size v1 l1) (h2 : SeesL W W.heap.size v2 l2) (hl : (l1 ++ l2).length ≤ 1048576) :
    Calls Try.prog 68 #[.slice (some ⟨W.heap.size, 0, none⟩) 2 2] (W.alloc (.cells #[v1, v2] 41)).drew fun e w' => ∃ v, e = .returned v ∧ OwnL w' W.heap.size v (l1 ++ l2) ∧ Below W.heap.size W w' := by
  have hfl : [l1, l2].flatten = l1 ++ l2 := by simp
  have h := concatL_any (W.alloc (.cells #[v1, v2] 41)).heap.size (.slice (some ⟨W.heap.size, 0, none⟩) 2 2) [l1, l2] (W.alloc (.cells #[v1, v2] 41)).drew
    (seesLL_two W v1 v2 l1 l2 h1 h2 _ (bdrew _)) (fun W3 h3 => seesLL_two W v1 v2 l1 l2 h1 h2 W3 ((bdrew _).trans h3)) (Nat.le_refl _) (by rw [hfl]; exact hl)
  rw [hfl] at h
  exact h.mono fun _ _ ⟨v, e, g1, g2⟩ => ⟨v, e, g1.mono (balloc W _).size, bgo (balloc W _) ((bdrew _).trans g2)⟩
set_option maxRecDepth 100000 in
theorem sigbytes_any (B : Nat) (u u2 : Value) (es ps : List Bs) (h i : Nat) (w : World) (hu : SeesL w B u es) (hu2 : SeesL w B u2 ps) (hB : B ≤ w.heap.size) (hh : h < 256) (hi : i < 4294967296) (he : 1 ≤ es.length) (hlen : es.length + ps.length ≤ 200) (hfl : (es ++ ps).flatten.length ≤ 1048576) :
    Calls Try.prog 41 #[.agg #[.int .i64 (h : Int), .int .i64 (i : Int), u, u2]] w (Gives ([UInt8.ofNat h] ++ putB 4 i ++ es.flatten ++ ps.flatten) w) := by
  obtain ⟨A, c, rfl, -, -⟩ := hu.mk_
  obtain ⟨AA, cc, rfl, -, -⟩ := hu2.mk_
  replace hu := Lib.hid hu
  replace hu2 := Lib.hid hu2
  have hl4 := Lib.hid (putB_len 4 i)
  have hsb := Lib.hid (fun W => sbegin_any h i W hh hi)
  go_enter Try.func41, Try.ntmps41
  go_wp2_with fail
  have hb0 := balloc w (.cells #[.int .i64 (h : Int), .int .i64 (i : Int), .slice A es.length c, .slice AA ps.length cc] 73)
  have hbx := Box.new w 73 [.int .i64 (h : Int), .int .i64 (i : Int), .slice A es.length c, .slice AA ps.length cc]
  change Code.wp _ _ _ _ (w.alloc (.cells #[.int .i64 (h : Int), .int .i64 (i : Int), .slice A es.length c, .slice AA ps.length cc] 73))
  have hlt : w.heap.size < (w.alloc (.cells #[.int .i64 (h : Int), .int .i64 (i : Int), .slice A es.length c, .slice AA ps.length cc] 73)).heap.size := hbx.lt
  generalize w.alloc (.cells #[.int .i64 (h : Int), .int .i64 (i : Int), .slice A es.length c, .slice AA ps.length cc] 73) = w0 at *
  have c0 : w0.cell? ⟨w.heap.size, 0, none⟩ = some (.int .i64 (h : Int)) := hbx.cell 0
  have c1 : w0.cell? ⟨w.heap.size, 1, none⟩ = some (.int .i64 (i : Int)) := hbx.cell 1
  have c2 : w0.cell? ⟨w.heap.size, 2, none⟩ = some (.slice A es.length c) := hbx.cell 2
  have c3 : w0.cell? ⟨w.heap.size, 3, none⟩ = some (.slice AA ps.length cc) := hbx.cell 3
  obtain ⟨g0, hg⟩ : ∃ g0, g0 = w.heap.size := ⟨_, rfl⟩
  rw [← hg] at c0 c1 c2 c3 hlt ⊢
  replace hg := Lib.hid hg
  have hcc := Lib.hid (concat_lit w0 _ _ _ _ (seesL_of hu.out hB hb0) (seesL_of hu2.out hB hb0) (by rw [List.length_append]; omega))
  replace hb0 := Lib.hid hb0
  clear hbx
  have hlen1 : 1 ≤ (es ++ ps).length ∧ (es ++ ps).length ≤ 200 := by rw [List.length_append]; omega
  have hfin : Hid (([[UInt8.ofNat h] ++ putB 4 i] ++ (es ++ ps)).flatten = [UInt8.ofNat h] ++ putB 4 i ++ es.flatten ++ ps.flatten) := by show _ = _; simp
  have hfl2 : Hid ((([UInt8.ofNat h] ++ putB 4 i) :: (es ++ ps)).flatten.length ≤ 1099511627776) := by show _ ≤ _; rw [List.flatten_cons, List.length_append]; simp [hl4.out] at hfl ⊢; omega
  generalize es ++ ps = ls at *
  generalize hhd : [UInt8.ofNat h] ++ putB 4 i = hd at *
  replace hhd := Lib.hid hhd
  have K : Hid (∀ W : World, Below w0.heap.size w0 W → W.cell? ⟨g0, 0, none⟩ = some (.int .i64 (h : Int)) ∧ W.cell? ⟨g0, 1, none⟩ = some (.int .i64 (i : Int)) ∧ W.cell? ⟨g0, 2, none⟩ = some (.slice A es.length c) ∧ W.cell? ⟨g0, 3, none⟩ = some (.slice AA ps.length cc)) :=
    fun W hW => ⟨(hW.cell (p := ⟨g0, 0, none⟩) hlt).trans c0, (hW.cell (p := ⟨g0, 1, none⟩) hlt).trans c1, (hW.cell (p := ⟨g0, 2, none⟩) hlt).trans c2, (hW.cell (p := ⟨g0, 3, none⟩) hlt).trans c3⟩
  go_region_held3 (fun W' : World => W'.cell? ⟨g0, 0, none⟩ = some (.int .i64 (h : Int)) ∧ W'.cell? ⟨g0, 1, none⟩ = some (.int .i64 (i : Int)) ∧ W'.cell? ⟨g0, 2, none⟩ = some (.slice A es.length c) ∧ W'.cell? ⟨g0, 3, none⟩ = some (.slice AA ps.length cc))
    (first | exact K.out _ hb4 | exact K.out _ hb3 | (refine K.out _ ?_; (repeat (first | exact Below.refl _ _ | (refine bgo ?_ (balloc _ _)) | (refine bgo ?_ (bdrew _)) | (refine bgo ?_ (by assumption)))); done) | (go_keep; done))
    (first
      | (go_at_call 29; refine (concat_any _ _ _ _ h3.sees (Nat.le_refl _) hfl2.out).mono ?_; rintro e w4 ⟨v4, rfl, h4, hb4⟩
         replace h4 := h4.mono hb3.size
         replace hb4 := bgo hb3 hb4)
      | (go_at_call 67
         refine (insert_any w0.heap.size g1 w2.heap.size ls.length c1' (.slice A2 hd.length c2') hd ls _ hrow hlen1.1 hlen1.2 (Box.new w2 22 [.slice A2 hd.length c2']) hgne hel (Nat.le_trans hb2'.size (balloc w2 _).size)).mono ?_
         rintro e w3 ⟨v3, rfl, h3, hb3'⟩
         have hb3 := (bgo hb2' (balloc w2 (.cells #[.slice A2 hd.length c2'] 22))).trans hb3'
         clear hb3')
      | (go_at_call 69; refine (hsb.out _).mono ?_; rintro e w2 ⟨v2, rfl, h2, hb2⟩
         have hb2' := bgo hb1 hb2
         have hrow := (h1.below hb2).below (balloc w2 (.cells #[v2] 22))
         have hel := (Elt.of_from (v := .slice (some ⟨g1, 0, none⟩) ls.length c1') h2.sees h2.from (fun k hk => (h1.lt k hk).2)).below (balloc w2 (.cells #[v2] 22))
         have hgne : w2.heap.size ≠ g1 := by have := (h1.lt g1 rfl).2; have := hb2.size; omega
         obtain ⟨A2, c2', rfl, -, -⟩ := h2.sees.mk_)
      | (go_at_call 68; refine hcc.out.mono ?_; rintro e w1 ⟨v1, rfl, h1, hb1⟩
         obtain ⟨A1, c1', rfl⟩ := h1.shape
         obtain ⟨g1, rfl⟩ := h1.at_ hlen1.1))
  all_goals
    go_wp2_with fail
    go_ret
    rw [show hd :: ls = [hd] ++ ls from rfl, hfin.out] at h4
    replace h4 := h4.mono hb0.out.size
    rw [← hhd.out] at h4
    exact ⟨v4, rfl, by simpa using h4, bgo hb0.out hb4⟩
end
section
open Go.RowKit
set_option linter.unusedVariables false
attribute [local go_sem ↓] Go.wp_at_zero Go.wp_at_succ
def validI (seed : Bs) (h n : Int) : Bool := decide (seed.length = 32) && (decide (0 ≤ h) && decide (h ≤ 6)) && decide (0 ≤ n) && decide (n ≤ 2 ^ h.toNat)
theorem tall_yes (h : Int) (w : World) (h0 : 0 ≤ h) (h1 : h ≤ 6) : Calls Try.prog 34 #[.int .i64 h] w fun e w' => e = .returned (.bool true) ∧ w' = w := by
  go_enter Try.func34, Try.ntmps34
  go_wp2
  go_ret
  exact ⟨rfl, rfl⟩
theorem tall_no (h : Int) (w : World) (h0 : h < 0 ∨ 6 < h) : Calls Try.prog 34 #[.int .i64 h] w fun e w' => e = .returned (.bool false) ∧ w' = w := by
  by_cases h1 : 0 ≤ h
  · have h2 : ¬ (h ≤ 6) := by omega
    go_enter Try.func34, Try.ntmps34
    go_wp2
    go_ret
    exact ⟨rfl, rfl⟩
  · go_enter Try.func34, Try.ntmps34
    go_wp2
    go_ret
    exact ⟨rfl, rfl⟩
set_option maxRecDepth 100000 in
theorem svalid_any (B : Nat) (u : Value) (seed : Bs) (h n : Int) (w : World) (hu : SeesB w B u seed) :
    Calls Try.prog 38 #[.agg #[u, .int .i64 h, .int .i64 n]] w (BoolPost (validI seed h n) w) := by
  obtain ⟨A, c, rfl, -, -⟩ := hu.mk_
  clear hu
  have hbb : ∀ k, Below w.heap.size w ((w.alloc (.cells #[.slice A seed.length c, .int .i64 h, .int .i64 n] 44)).drewN k) := fun k => below_drewN (balloc w _) k
  replace hbb := Lib.hid hbb
  by_cases hl : seed.length = 32
  · by_cases hh : 0 ≤ h ∧ h ≤ 6
    · by_cases hn : 0 ≤ n
      · have hv : Hid (validI seed h n = decide (n ≤ 2 ^ h.toNat)) := by show _ = _; simp [validI, hl, hh, hn]
        obtain ⟨h0, h1⟩ := hh
        obtain ⟨k, rfl⟩ := Int.eq_ofNat_of_zero_le h0
        rw [Int.toNat_natCast] at hv
        have hp := wrap_pow k (by omega)
        have hpc : ((2 ^ k : Nat) : Int) = (2 : Int) ^ k := by simp
        rw [← hpc] at hv
        replace hpc := Lib.hid hpc
        have hp64 := pow_le64 k (by omega)
        generalize 2 ^ k = N at *
        rw [hl] at hbb ⊢
        by_cases hN : n ≤ (N : Int)
        · go_enter Try.func38, Try.ntmps38
          go_wp2_with fail
          go_quiet ((go_at_call 34; exact Calls.quiet_of_same (tall_yes _ _ (by omega) (by omega))))
          go_wp2_with fail
          go_ret
          exact ⟨ret_bool (by rw [hv.out]; simp [hN]), hbb.out _⟩
        · go_enter Try.func38, Try.ntmps38
          go_wp2_with fail
          go_quiet ((go_at_call 34; exact Calls.quiet_of_same (tall_yes _ _ (by omega) (by omega))))
          go_wp2_with fail
          go_ret
          exact ⟨ret_bool (by rw [hv.out]), hbb.out _⟩
      · have hv : Hid (validI seed h n = false) := by show _ = _; simp [validI, hn]
        obtain ⟨h0, h1⟩ := hh
        rw [hl] at hbb ⊢
        have hn0 : decide (0 ≤ n) = false := by simpa using hn
        go_enter Try.func38, Try.ntmps38
        go_wp2_with fail
        go_quiet ((go_at_call 34; exact Calls.quiet_of_same (tall_yes _ _ (by omega) (by omega))))
        go_wp2_with fail
        go_ret
        exact ⟨ret_bool (by rw [hv.out]), hbb.out _⟩
    · have hv : Hid (validI seed h n = false) := by show _ = _; simp [validI]; omega
      rw [hl] at hbb ⊢
      go_enter Try.func38, Try.ntmps38
      go_wp2_with fail
      go_quiet ((go_at_call 34; exact Calls.quiet_of_same (tall_no _ _ (by omega))))
      go_wp2_with fail
      go_ret
      exact ⟨ret_bool (by rw [hv.out]), hbb.out _⟩
  · have hv : Hid (validI seed h n = false) := by show _ = _; simp [validI, hl]
    have hl2 : ((seed.length : Int) == 32) = false := by rw [beq_eq_false_iff_ne]; omega
    go_enter Try.func38, Try.ntmps38
    go_wp2_with fail
    go_quiet ((go_at_call 34; exact Calls.quiet_of_same (tall_no _ _ (by omega))))
    go_wp2_with fail
    go_ret
    exact ⟨ret_bool (by rw [hv.out]), hbb.out _⟩
end
section
open Go.RowKit
set_option linter.unusedVariables false
attribute [local go_sem ↓] Go.wp_at_zero Go.wp_at_succ
def SignOk (seed : Bs) (h i : Nat) (m : Bs) (w : World) (e : Ending) (w' : World) : Prop :=
  ∃ v v2, e = .returned (.tuple #[.agg #[v, .int .i64 (h : Int), .int .i64 ((i + 1 : Nat) : Int)], v2, .int .i64 0]) ∧ SeesB w' w'.heap.size v seed ∧ SeesB w' w'.heap.size v2 (sigG seed h i m) ∧ Below w.heap.size w w'
theorem validI_mk (seed : Bs) (h i : Nat) (hl : seed.length = 32) (hh : h ≤ 6) (hi : i ≤ 2 ^ h) : validI seed (h : Int) (i : Int) = true := by
  have : (i : Int) ≤ ((2 ^ h : Nat) : Int) := by omega
  simp [validI, hl] at this ⊢
  omega
/-- No cell of this block is a byte. -/
def NoByte (xs : List Value) : Prop := ∀ x ∈ xs, ∀ n, x ≠ .int .u8 n
theorem SeesB.notin {w : World} {B G : Nat} {T : TypeId} {u : Value} {l : Bs} {xs : List Value} (h : SeesB w B u l) (hbx : Box w G T xs) (hno : NoByte xs) (hl : l ≠ []) : u.ownBlock ≠ some G := by
  intro e
  obtain ⟨A, c, rfl, -, -⟩ := h.mk_
  obtain ⟨b, o, rfl, -, hc⟩ := h.at_ (List.length_pos_iff.2 hl)
  cases e
  have h0 := hc 0 (List.length_pos_iff.2 hl)
  rw [hbx.cell] at h0
  exact hno _ (List.mem_of_getElem? h0) _ rfl
theorem setCell_grown (w : World) (G j : Nat) (v : Value) : w.grownBy (w.setCell ⟨G, j, none⟩ v) (some G) := ⟨rfl, rfl, rfl, by simp [World.setCell], fun k hk hne => Below.heap_setCell w ⟨G, j, none⟩ v k (fun e => hne (by rw [e]))⟩
theorem OwnL.poke {w : World} {base G j : Nat} {T : TypeId} {v v' : Value} {ls : List Bs} {xs : List Value} (h : OwnL w base v ls) (hG : G < base) (hbx : Box w G T xs) (hno : NoByte xs) : OwnL (w.setCell ⟨G, j, none⟩ v') base v ls := by
  have hlt := h.lt
  obtain ⟨vs, h1, h2⟩ := h
  have hne : v.ownBlock ≠ some G := fun e => by have := (hlt G e).1; omega
  refine ⟨vs, h1.kept (setCell_grown w G j v') (.inr hne), fun k hk => ?_⟩
  obtain ⟨u, e1, e2⟩ := h2 k hk
  refine ⟨u, e1, SeesB.more (e2.1.stay fun hl k hk p hp => World.cell?_setCell_other w _ p v' (fun e => ?_)) (by simp [World.setCell]), e2.2⟩
  exact e2.1.notin hbx hno hl (by rw [hk, ← hp, ← e])
theorem SeesB.poke {w : World} {B G j : Nat} {T : TypeId} {u v' : Value} {l : Bs} {xs : List Value} (h : SeesB w B u l) (hbx : Box w G T xs) (hno : NoByte xs) : SeesB (w.setCell ⟨G, j, none⟩ v') B u l :=
  h.stay fun hl k hk p hp => World.cell?_setCell_other w _ p v' (fun e => h.notin hbx hno hl (by rw [hk, ← hp, ← e]))
theorem Box.other {w : World} {g G j : Nat} {T : TypeId} {v : Value} {xs : List Value} (h : Box w g T xs) (hne : g ≠ G) : Box (w.setCell ⟨G, j, none⟩ v) g T xs := (Below.heap_setCell w ⟨G, j, none⟩ v g hne).trans h
theorem noByte4 (h i : Int) (a b : Value) (ha : ∀ n, a ≠ .int .u8 n) (hb : ∀ n, b ≠ .int .u8 n) : NoByte [.int .i64 h, .int .i64 i, a, b] := by
  intro x hx n e
  simp only [List.mem_cons, List.not_mem_nil, or_false] at hx
  rcases hx with rfl | rfl | rfl | rfl
  · cases e
  · cases e
  · exact ha n e
  · exact hb n e
theorem cell_set3 (W : World) (q : Nat) (p : Addr) (hne : p.block ≠ q) (a b c : Value) : (((W.setCell ⟨q, 0, none⟩ a).setCell ⟨q, 1, none⟩ b).setCell ⟨q, 2, none⟩ c).cell? p = W.cell? p := by
  rw [World.cell?_setCell_other _ _ _ _ (fun e => hne (by rw [← e])), World.cell?_setCell_other _ _ _ _ (fun e => hne (by rw [← e])), World.cell?_setCell_other _ _ _ _ (fun e => hne (by rw [← e]))]
set_option maxRecDepth 100000 in
set_option maxHeartbeats 4000000 in
theorem sign_ok (B : Nat) (u u2 : Value) (seed m : Bs) (h i : Nat) (w : World) (hu : SeesB w B u seed) (hu2 : SeesB w B u2 m) (hB : B ≤ w.heap.size) (hl : seed.length = 32) (hh : h ≤ 6) (hi : i < 2 ^ h) (hm : m.length ≤ 65535) :
    Calls Try.prog 19 #[.agg #[u, .int .i64 (h : Int), .int .i64 (i : Int)], u2] w (SignOk seed h i m w) := by
  obtain ⟨A, c, rfl, -, -⟩ := hu.mk_
  obtain ⟨AA, cc, rfl, -, -⟩ := hu2.mk_
  have hvI := validI_mk seed h i hl hh (Nat.le_of_lt hi)
  have hp := wrap_pow h hh
  have hp64 := pow_le64 h hh
  have hval := fun W (hW : SeesB W B (.slice A seed.length c) seed) => svalid_any B _ seed h i W hW
  rw [hvI] at hval
  have hlv := fun W (hW : SeesB W W.heap.size (.slice A seed.length c) seed) => leaves_any W.heap.size _ seed h W hW (Nat.le_refl _) hl hh
  have hclone := fun W (hW : SeesB W W.heap.size (.slice A seed.length c) seed) => clone_any W.heap.size _ seed W hW (Nat.le_refl _) (by omega)
  have hsg := fun W (v2 : Value) (d : Bs) (hd : d.length = 16) (hW : SeesB W W.heap.size (.slice A seed.length c) seed) (h2 : SeesB W W.heap.size v2 d) => otsign_any W.heap.size _ v2 seed d i W hW h2 (Nat.le_refl _) hl hd (by omega)
  have hdg := fun W (v2 : Value) (p : Bs) (hp : p.length = 32) (hW : SeesB W W.heap.size v2 p) (h2 : SeesB W W.heap.size (.slice AA m.length cc) m) => digest_any W.heap.size v2 _ p m i W hW h2 (Nat.le_refl _) (by omega) (by omega) (by omega)
  have hbytes := fun W (v1 v2 : Value) (es ps : List Bs) (h1 : SeesL W W.heap.size v1 es) (h2 : SeesL W W.heap.size v2 ps) => sigbytes_any W.heap.size v1 v2 es ps h i W h1 h2 (Nat.le_refl _) (by omega) (by omega)
  rw [hl] at hu hval hlv hclone hsg ⊢
  replace hu := Lib.hid hu
  replace hu2 := Lib.hid hu2
  replace hvI := Lib.hid hvI
  replace hval := Lib.hid hval
  replace hlv := Lib.hid hlv
  replace hclone := Lib.hid hclone
  replace hsg := Lib.hid hsg
  replace hdg := Lib.hid hdg
  replace hbytes := Lib.hid hbytes
  replace hl := Lib.hid hl
  have hkl := Lib.hid (keyG_len seed h)
  have hleaves := Lib.hid (leavesL_len seed (2 ^ h))
  have hsig : Hid ([UInt8.ofNat h] ++ putB 4 i ++ (signL seed i (digG (keyG seed h) i m)).flatten ++ (pathG (hashesG seed h) i).flatten = sigG seed h i m) := rfl
  have hkey : Hid (rootG ((leavesL seed (2 ^ h)).map leafH) = keyG seed h) := rfl
  have hpath : Hid (pathG ((leavesL seed (2 ^ h)).map leafH) i = pathG (hashesG seed h) i) := rfl
  have hel : Hid (∀ x ∈ leavesL seed (2 ^ h), x.length = 16) := leavesL_el seed _
  have hpl := Lib.hid (pathG_len h _ i (hashesG_len seed h))
  have hpe : Hid (∀ x ∈ pathG (hashesG seed h) i, x.length = 32) := pathG_el _ _ _ (Nat.le_refl _) (hashesG_el seed h)
  generalize leavesL seed (2 ^ h) = LV at *
  generalize hN : 2 ^ h = N at *
  have hi2 : ((i : Int) == (N : Int)) = false := by rw [beq_eq_false_iff_ne]; omega
  replace hN := Lib.hid hN
  go_enter Try.func19, Try.ntmps19
  go_wp2_with fail
  have hb0 : Below w.heap.size w ((w.alloc (.cells #[.slice A 32 c, .int .i64 (h : Int), .int .i64 (i : Int)] 44)).alloc (.cells #[.slice none 0 0, .int .i64 0, .int .i64 0] 44)) := bgo (balloc w _) (balloc _ _)
  have hx1 := Box.below (Box.new w 44 [.slice A 32 c, .int .i64 (h : Int), .int .i64 (i : Int)]) (balloc _ (.cells #[.slice none 0 0, .int .i64 0, .int .i64 0] 44))
  have hx2 := Box.new (w.alloc (.cells #[.slice A 32 c, .int .i64 (h : Int), .int .i64 (i : Int)] 44)) 44 [.slice none 0 0, .int .i64 0, .int .i64 0]
  have hz : (w.alloc (.cells #[.slice A 32 c, .int .i64 (h : Int), .int .i64 (i : Int)] 44)).heap.size = w.heap.size + 1 := World.size_alloc _ _
  rw [hz] at hx2
  change Box ((w.alloc (.cells #[.slice A 32 c, .int .i64 (h : Int), .int .i64 (i : Int)] 44)).alloc (.cells #[.slice none 0 0, .int .i64 0, .int .i64 0] 44)) _ _ _ at hx1 hx2
  generalize (w.alloc (.cells #[.slice A 32 c, .int .i64 (h : Int), .int .i64 (i : Int)] 44)).alloc (.cells #[.slice none 0 0, .int .i64 0, .int .i64 0] 44) = W0 at *
  clear hz
  obtain ⟨g, hg⟩ : ∃ g, g = w.heap.size := ⟨_, rfl⟩
  rw [← hg] at hx1 hx2 ⊢
  replace hg := Lib.hid hg
  replace hb0 := Lib.hid hb0
  refine (hval.out W0 (hu.out.below (hb0.out.mono hB))).mono ?_
  rintro e W1 ⟨rfl, hb1⟩
  replace hx1 := hx1.below hb1
  replace hx2 := hx2.below hb1
  replace hb1 := Lib.hid (bgo hb0.out hb1)
  have c0 : W1.cell? ⟨g, 0, none⟩ = some (.slice A 32 c) := hx1.cell 0
  have c1 : W1.cell? ⟨g, 1, none⟩ = some (.int .i64 (h : Int)) := hx1.cell 1
  have c2 : W1.cell? ⟨g, 2, none⟩ = some (.int .i64 (i : Int)) := hx1.cell 2
  clear hval hb0
  replace hx1 := Lib.hid hx1
  replace hx2 := Lib.hid hx2
  dsimp only
  go_wp2_with fail
  go_quiet (fail)
  go_wp2_with fail
  have hx1q : Box (W1.drewN nq) g 44 _ := hx1.out
  have hx2q : Box (W1.drewN nq) (g + 1) 44 _ := hx2.out
  have hb1q := below_drewN hb1.out nq
  clear hx1 hx2 hb1 c0 c1 c2
  generalize W1.drewN nq = W1 at *
  refine (hlv.out W1 (seesB_of (hu.out.more hB) (Nat.le_refl _) hb1q)).mono ?_
  rintro e W2 ⟨v2, rfl, h2, hb2⟩
  have hrt := root_top LV W2.heap.size v2 W2 h2.sees (Nat.le_refl _) (by rw [hleaves.out]; omega) (fun x hx => by rw [hel.out x hx]; omega)
  unfold RootPost at hrt
  rw [hkey.out] at hrt
  obtain ⟨A2, c2', rfl⟩ := h2.shape
  rw [hleaves.out] at hrt h2 ⊢
  replace hx1 := hx1q.below hb2
  replace hx2 := hx2q.below hb2
  replace hb2 := bgo hb1q hb2
  replace h2 := Lib.hid h2
  replace hrt := Lib.hid hrt
  clear hlv hx1q hx2q hb1q
  dsimp only
  go_wp2_with fail
  refine hrt.out.mono ?_
  rintro e W3 ⟨v3, rfl, h3, hb3⟩
  replace h2 := h2.out.below hb3
  replace hx1 := hx1.below hb3
  replace hx2 := hx2.below hb3
  replace hb3 := bgo hb2 hb3
  clear hb2 hrt
  have c0 : W3.cell? ⟨g, 0, none⟩ = some (.slice A 32 c) := hx1.cell 0
  have c1 : W3.cell? ⟨g, 1, none⟩ = some (.int .i64 (h : Int)) := hx1.cell 1
  have c2 : W3.cell? ⟨g, 2, none⟩ = some (.int .i64 (i : Int)) := hx1.cell 2
  obtain ⟨A3, c3, rfl, -, -⟩ := h3.sees.mk_
  rw [hkl.out] at h3 ⊢
  have hgl := hx1.lt
  have hgl2 := hx2.lt
  replace hx1 := Lib.hid hx1
  replace hx2 := Lib.hid hx2
  replace hb3 := Lib.hid hb3
  replace h3 := Lib.hid h3
  replace h2 := Lib.hid h2
  dsimp only
  go_wp2_with fail
  have hb4 := balloc W3 (.cells #[.int .i64 (h : Int), .int .i64 (i : Int), .slice none 0 0, .slice none 0 0] 73)
  have hx3 := Box.new W3 73 [.int .i64 (h : Int), .int .i64 (i : Int), .slice none 0 0, .slice none 0 0]
  have h24 := h2.out.below hb4
  have h34 := h3.out.below hb4
  have hx14 := hx1.out.below hb4
  have hx24 := hx2.out.below hb4
  have hb34 := bgo hb3.out hb4
  clear c0 c1 c2 h2 h3 hx1 hx2
  change Calls _ _ _ (W3.alloc (.cells #[.int .i64 (h : Int), .int .i64 (i : Int), .slice none 0 0, .slice none 0 0] 73)) _
  generalize W3.alloc (.cells #[.int .i64 (h : Int), .int .i64 (i : Int), .slice none 0 0, .slice none 0 0] 73) = W4 at *
  obtain ⟨G, hG⟩ : ∃ G, G = W3.heap.size := ⟨_, rfl⟩
  rw [← hG] at hx3 hgl hgl2 ⊢
  have hwG : w.heap.size ≤ G := by have := hb3.out.size; omega
  replace hG := Lib.hid hG
  have hpt := path_top LV i W4.heap.size (.slice A2 N c2') W4 h24.sees (by rw [hleaves.out]; exact hi) (Nat.le_refl _) (by rw [hleaves.out]; omega) (fun x hx => by rw [hel.out x hx]; omega)
  unfold PathPost at hpt
  rw [hpath.out] at hpt
  generalize pathG (hashesG seed h) i = PT at *
  refine hpt.mono ?_
  rintro e W5 ⟨v5, rfl, h5, hb5⟩
  obtain ⟨A5, c5, rfl⟩ := h5.shape
  rw [hpl.out] at h5 ⊢
  have hG4 := hx3.lt
  replace hx1 := hx14.below hb5
  replace hx2 := hx24.below hb5
  replace hx3 := hx3.below hb5
  replace h3 := h34.below hb5
  replace hb5 := bgo hb34 hb5
  have y3 : W5.cell? ⟨G, 3, none⟩ = some (.slice none 0 0) := hx3.cell 3
  have f3 := hx3.frozen 3
  clear hpt h24 hb4 h34 hx14 hx24 hb34 hb3
  replace hx1 := Lib.hid hx1
  replace hx2 := Lib.hid hx2
  replace hx3 := Lib.hid hx3
  replace hb5 := Lib.hid hb5
  replace h3 := Lib.hid h3
  replace h5 := Lib.hid h5
  dsimp only
  go_wp2_with fail
  have hno := noByte4 (h : Int) (i : Int) (.slice none 0 0) (.slice none 0 0) (fun n e => by cases e) (fun n e => by cases e)
  have h56 := h5.out.poke (j := 3) (v' := .slice A5 h c5) hG4 hx3.out hno
  have h36 := (SeesB.poke (j := 3) (v' := .slice A5 h c5) h3.out.sees hx3.out hno).more (B' := (W5.setCell ⟨G, 3, none⟩ (.slice A5 h c5)).heap.size) (by simp [World.setCell])
  have hx16 := hx1.out.other (j := 3) (v := .slice A5 h c5) (show g ≠ G by omega)
  have hx26 := hx2.out.other (j := 3) (v := .slice A5 h c5) (show g + 1 ≠ G by omega)
  have hx36 := hx3.out.set 3 (.slice A5 h c5)
  have hb6 : Below w.heap.size w (W5.setCell ⟨G, 3, none⟩ (.slice A5 h c5)) := hb5.out.setCell (p := ⟨G, 3, none⟩) hwG _
  simp only [List.set_cons_succ, List.set_cons_zero] at hx36
  clear h5 h3 hx1 hx2 hx3 hb5 y3 f3 hno
  generalize W5.setCell ⟨G, 3, none⟩ (.slice A5 h c5) = W6 at *
  have hg0 := Lib.hid (hdg.out W6.drew (.slice A3 32 c3) (keyG seed h) hkl.out h36 (seesB_of (hu2.out.more hB) (Nat.le_refl _) (hb6.drew)))
  have hd16 : Hid ((digG (keyG seed h) i m).length = 16) := short_len _
  generalize digG (keyG seed h) i m = DG at *
  have hsg2 : Hid (∀ W v2, Below W6.heap.size W6 W → SeesB W W.heap.size v2 DG → Calls Try.prog 39 #[.slice A 32 c, .int .i64 (i : Int), v2] W (OtSignPost (signL seed i DG) W)) :=
    fun W v2 hbW h2 => hsg.out W v2 DG hd16.out (seesB_of (hu.out.more hB) (Nat.le_refl _) (bgo hb6 hbW)) h2
  have K : Hid (∀ W : World, Below W6.heap.size W6 W → W.cell? ⟨g, 0, none⟩ = some (.slice A 32 c) ∧ W.cell? ⟨g, 2, none⟩ = some (.int .i64 (i : Int))) :=
    fun W hW => ⟨(hW.cell (p := ⟨g, 0, none⟩) hx16.lt).trans (hx16.cell 0), (hW.cell (p := ⟨g, 2, none⟩) hx16.lt).trans (hx16.cell 2)⟩
  have y0 : W6.cell? ⟨g, 0, none⟩ = some (.slice A 32 c) := hx16.cell 0
  have y2 : W6.cell? ⟨g, 2, none⟩ = some (.int .i64 (i : Int)) := hx16.cell 2
  have hgG : g ≠ G := by omega
  have hG6 := hx36.lt
  have z2 : Hid (∀ W : World, Below W6.heap.size W6 W → W.cell? ⟨G, 2, none⟩ = some (.slice none 0 0) ∧ W.frozen? ⟨G, 2, none⟩ = false) := fun W hW => ⟨(hx36.below hW).cell 2, (hx36.below hW).frozen 2⟩
  have K2 : Hid (∀ (W : World) (v : Value), Below W6.heap.size W6 W → (W.setCell ⟨G, 2, none⟩ v).cell? ⟨g, 0, none⟩ = some (.slice A 32 c) ∧ (W.setCell ⟨G, 2, none⟩ v).cell? ⟨g, 2, none⟩ = some (.int .i64 (i : Int))) :=
    fun W v hW => ⟨(World.cell?_setCell_other W _ _ v (fun e => by cases e)).trans (K.out W hW).1, (World.cell?_setCell_other W _ _ v (fun e => hgG (by cases e; rfl))).trans (K.out W hW).2⟩
  replace hx16 := Lib.hid hx16
  replace hx26 := Lib.hid hx26
  replace hx36 := Lib.hid hx36
  replace h56 := Lib.hid h56
  replace hb6 := Lib.hid hb6
  clear hdg hsg h36
  go_region_held3 (fun W' : World => W'.cell? ⟨g, 0, none⟩ = some (.slice A 32 c) ∧ W'.cell? ⟨g, 2, none⟩ = some (.int .i64 (i : Int)))
    (first | exact K.out _ hb8 | exact K2.out _ _ hb8 | exact K.out _ hb7 | (go_keep; done))
    (first
      | (go_at_call 39; refine (hsg2.out _ _ hb7 h7).mono ?_; rintro e W8 ⟨v8, rfl, h8, hb8⟩
         obtain ⟨A8, c8, rfl⟩ := h8.shape
         replace hb8 := bgo hb7 hb8
         obtain ⟨q2, q3⟩ := z2.out W8 hb8)
      | (go_at_call 40; refine hg0.out.mono ?_; rintro e W7 ⟨v7, rfl, h7, hb7, -⟩
         obtain ⟨A7, c7, rfl, -, -⟩ := h7.mk_
         replace hb7 := (bdrew W6).trans hb7))
  all_goals
    have hno := noByte4 (h : Int) (i : Int) (.slice none 0 0) (.slice A5 h c5) (fun n e => by cases e) (fun n e => by cases e)
    have hx1 := (hx16.out.below hb8).other (j := 2) (v := .slice A8 (signL seed i DG).length c8) hgG
    have hx2 := (hx26.out.below hb8).other (j := 2) (v := .slice A8 (signL seed i DG).length c8) (show g + 1 ≠ G by omega)
    have hx38 := hx36.out.below hb8
    have hx3 := hx38.set 2 (.slice A8 (signL seed i DG).length c8)
    simp only [List.set_cons_succ, List.set_cons_zero] at hx3
    have h89 := h8.poke (j := 2) (v' := .slice A8 (signL seed i DG).length c8) (Nat.lt_of_lt_of_le hG6 hb7.size) hx38 hno
    have h59 := (h56.out.below hb8).poke (j := 2) (v' := .slice A8 (signL seed i DG).length c8) hG4 hx38 hno
    have hb9 : Below w.heap.size w (W8.setCell ⟨G, 2, none⟩ (.slice A8 (signL seed i DG).length c8)) := (bgo hb6.out hb8).setCell (p := ⟨G, 2, none⟩) hwG _
    have hsl := signL_len seed i DG
    have hse := signL_el seed i DG
    clear hx16 hx26 hx36 hx38 h8 h56 hb8 hb7 h7 hno K K2 z2 q2 q3 hsg2 hg0 hb6
    generalize hSL : signL seed i DG = SL at *
    replace hSL := Lib.hid hSL
    rw [hsl] at hx1 hx2 hx3 h89 h59 hb9 ⊢
    replace hsl := Lib.hid hsl
    replace hse := Lib.hid hse
    generalize W8.setCell ⟨G, 2, none⟩ (.slice A8 35 c8) = W9 at *
    have K : Hid (∀ W : World, Below W9.heap.size W9 W → W.cell? ⟨g, 0, none⟩ = some (.slice A 32 c) ∧ W.cell? ⟨g, 1, none⟩ = some (.int .i64 (h : Int)) ∧ W.cell? ⟨g, 2, none⟩ = some (.int .i64 (i : Int)) ∧
        W.cell? ⟨G, 0, none⟩ = some (.int .i64 (h : Int)) ∧ W.cell? ⟨G, 1, none⟩ = some (.int .i64 (i : Int)) ∧ W.cell? ⟨G, 2, none⟩ = some (.slice A8 35 c8) ∧ W.cell? ⟨G, 3, none⟩ = some (.slice A5 h c5)) :=
      fun W hW => ⟨(hx1.below hW).cell 0, (hx1.below hW).cell 1, (hx1.below hW).cell 2, (hx3.below hW).cell 0, (hx3.below hW).cell 1, (hx3.below hW).cell 2, (hx3.below hW).cell 3⟩
    have K3 : Hid (∀ (W : World) (a b d : Value), Below W9.heap.size W9 W → (((W.setCell ⟨g + 1, 0, none⟩ a).setCell ⟨g + 1, 1, none⟩ b).setCell ⟨g + 1, 2, none⟩ d).cell? ⟨g, 0, none⟩ = some (.slice A 32 c) ∧ (((W.setCell ⟨g + 1, 0, none⟩ a).setCell ⟨g + 1, 1, none⟩ b).setCell ⟨g + 1, 2, none⟩ d).cell? ⟨g, 1, none⟩ = some (.int .i64 (h : Int)) ∧ (((W.setCell ⟨g + 1, 0, none⟩ a).setCell ⟨g + 1, 1, none⟩ b).setCell ⟨g + 1, 2, none⟩ d).cell? ⟨g, 2, none⟩ = some (.int .i64 (i : Int)) ∧
        (((W.setCell ⟨g + 1, 0, none⟩ a).setCell ⟨g + 1, 1, none⟩ b).setCell ⟨g + 1, 2, none⟩ d).cell? ⟨G, 0, none⟩ = some (.int .i64 (h : Int)) ∧ (((W.setCell ⟨g + 1, 0, none⟩ a).setCell ⟨g + 1, 1, none⟩ b).setCell ⟨g + 1, 2, none⟩ d).cell? ⟨G, 1, none⟩ = some (.int .i64 (i : Int)) ∧ (((W.setCell ⟨g + 1, 0, none⟩ a).setCell ⟨g + 1, 1, none⟩ b).setCell ⟨g + 1, 2, none⟩ d).cell? ⟨G, 2, none⟩ = some (.slice A8 35 c8) ∧ (((W.setCell ⟨g + 1, 0, none⟩ a).setCell ⟨g + 1, 1, none⟩ b).setCell ⟨g + 1, 2, none⟩ d).cell? ⟨G, 3, none⟩ = some (.slice A5 h c5)) :=
      fun W a b d hW => by
        obtain ⟨k0, k1, k2, k3, k4, k5, k6⟩ := K.out W hW
        have e1 : ∀ o, (⟨g, o, none⟩ : Addr).block ≠ g + 1 := fun o => by dsimp only; omega
        have e2 : ∀ o, (⟨G, o, none⟩ : Addr).block ≠ g + 1 := fun o => by dsimp only; omega
        exact ⟨(cell_set3 W _ _ (e1 0) a b d).trans k0, (cell_set3 W _ _ (e1 1) a b d).trans k1, (cell_set3 W _ _ (e1 2) a b d).trans k2, (cell_set3 W _ _ (e2 0) a b d).trans k3, (cell_set3 W _ _ (e2 1) a b d).trans k4, (cell_set3 W _ _ (e2 2) a b d).trans k5, (cell_set3 W _ _ (e2 3) a b d).trans k6⟩
    obtain ⟨y0, y1, y2, y3, y4, y5, y6⟩ := K.out W9 (Below.refl _ _)
    have Z : Hid (∀ W : World, Below W9.heap.size W9 W → Box W (g + 1) 44 [.slice none 0 0, .int .i64 0, .int .i64 0]) := fun W hW => hx2.below hW
    have hlt1 := hx2.lt
    have hcl := Lib.hid (hclone.out W9.drew (seesB_of (hu.out.more hB) (Nat.le_refl _) hb9.drew))
    have hby : Hid (∀ W, Below W9.heap.size W9 W → Calls Try.prog 41 #[.agg #[.int .i64 (h : Int), .int .i64 (i : Int), .slice A8 35 c8, .slice A5 h c5]] W (Gives (sigG seed h i m) W)) := fun W hW => by
      have := hbytes.out W (.slice A8 35 c8) (.slice A5 h c5) SL PT (h89.below hW).sees (h59.below hW).sees (by rw [hsl.out]; omega) (by rw [hsl.out, hpl.out]; omega) (by
        rw [List.flatten_append, List.length_append, flat_len 16 SL hse.out, flat_len 32 PT hpe.out, hsl.out, hpl.out]; omega)
      rw [hsig.out] at this
      exact this
    have m5 : IntKind.i64.wrap ((i : Int) + 1) = (i : Int) + 1 := by rw [IntKind.wrap_i64]; omega
    replace hb9 := Lib.hid hb9
    clear hx1 hx2 hx3 h89 h59 hclone hbytes hsig hpl hpe hsl hse hSL
    generalize hSG : sigG seed h i m = SG at *
    replace hSG := Lib.hid hSG
    go_wp2_with fail
    go_region_held3 (fun W' : World => W'.cell? ⟨g, 0, none⟩ = some (.slice A 32 c) ∧ W'.cell? ⟨g, 1, none⟩ = some (.int .i64 (h : Int)) ∧ W'.cell? ⟨g, 2, none⟩ = some (.int .i64 (i : Int)) ∧
        W'.cell? ⟨G, 0, none⟩ = some (.int .i64 (h : Int)) ∧ W'.cell? ⟨G, 1, none⟩ = some (.int .i64 (i : Int)) ∧ W'.cell? ⟨G, 2, none⟩ = some (.slice A8 35 c8) ∧ W'.cell? ⟨G, 3, none⟩ = some (.slice A5 h c5))
      (first | exact K.out _ hb11 | exact K3.out _ _ _ _ hb11 | exact K.out _ hb10 | (go_keep; done))
      (first
        | (go_at_call 41; refine (hby.out _ hb10).mono ?_; rintro e W11 ⟨v11, rfl, h11, hb11⟩
           obtain ⟨A11, c11, rfl, -, -⟩ := h11.sees.mk_
           replace h10 := h10.below hb11
           have hbs := hb10.size
           replace hb11 := bgo hb10 hb11
           have hz := Z.out W11 hb11
           have z0 : W11.cell? ⟨g + 1, 0, none⟩ = some (.slice none 0 0) := hz.cell 0
           have z1 : W11.cell? ⟨g + 1, 1, none⟩ = some (.int .i64 0) := hz.cell 1
           have z2 : W11.cell? ⟨g + 1, 2, none⟩ = some (.int .i64 0) := hz.cell 2
           have f0 := hz.frozen 0
           have f1 := hz.frozen 1
           have f2 := hz.frozen 2)
        | (go_at_call 30; refine hcl.out.mono ?_; rintro e W10 ⟨v10, rfl, h10, hb10⟩
           obtain ⟨A10, c10, rfl, -, -⟩ := h10.sees.mk_
           replace hb10 := (bdrew W9).trans hb10))
    all_goals
      have k10 : OwnB (((W11.setCell ⟨g + 1, 0, none⟩ (.slice A10 seed.length c10)).setCell ⟨g + 1, 1, none⟩ (.int .i64 (h : Int))).setCell ⟨g + 1, 2, none⟩ (.int .i64 ((i : Int) + 1))) W9.heap.size (.slice A10 seed.length c10) seed :=
        ownsRow_setCell_below (ownsRow_setCell_below (ownsRow_setCell_below h10 (by dsimp only; exact hlt1) _) (by dsimp only; exact hlt1) _) (by dsimp only; exact hlt1) _
      have k11 : OwnB (((W11.setCell ⟨g + 1, 0, none⟩ (.slice A10 seed.length c10)).setCell ⟨g + 1, 1, none⟩ (.int .i64 (h : Int))).setCell ⟨g + 1, 2, none⟩ (.int .i64 ((i : Int) + 1))) W10.heap.size (.slice A11 SG.length c11) SG :=
        ownsRow_setCell_below (ownsRow_setCell_below (ownsRow_setCell_below h11 (by dsimp only; omega) _) (by dsimp only; omega) _) (by dsimp only; omega) _
      have kz := ((hz.set 0 (.slice A10 seed.length c10)).set 1 (.int .i64 (h : Int))).set 2 (.int .i64 ((i : Int) + 1))
      simp only [List.set_cons_succ, List.set_cons_zero] at kz
      have hgw : w.heap.size ≤ g + 1 := by have := hg.out; omega
      have hend : Below w.heap.size w (((W11.setCell ⟨g + 1, 0, none⟩ (.slice A10 seed.length c10)).setCell ⟨g + 1, 1, none⟩ (.int .i64 (h : Int))).setCell ⟨g + 1, 2, none⟩ (.int .i64 ((i : Int) + 1))) :=
        (((bgo hb9.out hb11).setCell (p := ⟨g + 1, 0, none⟩) hgw _).setCell (p := ⟨g + 1, 1, none⟩) hgw _).setCell (p := ⟨g + 1, 2, none⟩) hgw _
      clear h10 h11 hz z0 z1 z2 f0 f1 f2 hb11 K K3 Z
      generalize ((W11.setCell ⟨g + 1, 0, none⟩ (.slice A10 seed.length c10)).setCell ⟨g + 1, 1, none⟩ (.int .i64 (h : Int))).setCell ⟨g + 1, 2, none⟩ (.int .i64 ((i : Int) + 1)) = W12 at *
      have z0 : W12.cell? ⟨g + 1, 0, none⟩ = some (.slice A10 seed.length c10) := kz.cell 0
      have z1 : W12.cell? ⟨g + 1, 1, none⟩ = some (.int .i64 (h : Int)) := kz.cell 1
      have z2 : W12.cell? ⟨g + 1, 2, none⟩ = some (.int .i64 ((i : Int) + 1)) := kz.cell 2
      go_wp2_with fail
      refine bodyPost_ret (v := .tuple #[.agg #[.slice A10 seed.length c10, .int .i64 (h : Int), .int .i64 ((i : Int) + 1)], .slice A11 SG.length c11, .int .i64 0]) (by simp [results, Try.results19, go_sem, z0, z1, z2]) rfl ?_
      exact ⟨_, _, rfl, k10.sees, by rw [hSG.out]; exact k11.sees, hend⟩
end
section
open Go.RowKit Go.Shelf
set_option linter.unusedVariables false
attribute [local go_sem] Oper.semAt_some
def chunkV (b o size k : Nat) : Value := .slice (some ⟨b, o + size * k, none⟩) size size
theorem range_snoc (k : Nat) : List.range (k + 1) = List.range k ++ [k] := List.range_succ
theorem run_cut3g {P : Program} (t : TypeId) (ht : P.underlying t = some (.slice (P.elem t))) (size : Nat) (hs : ∀ w, (sizeOf (P.elem t)).run P w = .ok size w) (A : Option Addr) (n c : Nat) (l h : Int) (h0 : 0 ≤ l) (h1 : l ≤ h) (h2 : h ≤ c) (w : World) :
    (Instr.slice t (.slice A n c) (some (.int .i64 l)) (some (.int .i64 h)) (some (.int .i64 h))).run P w = .ok (.slice (cutA A h.toNat l.toNat size) (h.toNat - l.toNat) (h.toNat - l.toNat)) w := by
  rw [run_slice_lhm w t A n c ht .i64 .i64 .i64 l h h h0 h1 (Int.le_refl _) h2, hs]; rfl
set_option maxRecDepth 100000 in
theorem run_cut3 (b o len cap sk size : Nat) (h1 : sk + size ≤ cap) (h2 : 0 < size) (w : World) :
    (Instr.slice 22 (.slice (some ⟨b, o, none⟩) len cap) (some (.int .i64 (sk : Int))) (some (.int .i64 ((sk : Int) + (size : Int)))) (some (.int .i64 ((sk : Int) + (size : Int))))).run Try.prog w = .ok (.slice (some ⟨b, o + sk, none⟩) size size) w := by
  have h := run_cut3g (P := Try.prog) 22 Try.underlying22 1 byte_size (some ⟨b, o, none⟩) len cap (sk : Int) ((sk : Int) + (size : Int)) (by omega) (by omega) (by omega) w
  rw [Int.toNat_natCast, show ((sk : Int) + (size : Int)).toNat = sk + size from by omega, cutA, if_neg (by omega), Option.map_some, add_zero', Nat.mul_one, Nat.add_sub_cancel_left] at h
  exact h
set_option maxRecDepth 100000 in
set_option maxHeartbeats 2000000 in
theorem chunk1_in (n : Nat) (hn : 1 ≤ n) (l Bs Bn n₀ b o cap size N : Nat) (A : Option Addr) (hA : 0 < N → A = some ⟨b, o, none⟩) (hs0 : 0 < size) (hs1 : size ≤ 64) (hN : N ≤ 64) (hcap : size * N ≤ cap) (hbs : Bs < n₀) (hbn : Bn < n₀) (J Jx : List Nat → World → Prop) (B0 : Nat) (hJ : AbidesFrom B0 J)
    (hY : ∀ pre x W, J pre W → pre.length < N → YieldAt Fence.wide (n - 1) Try.prog l #[chunkV b o size x] W fun e W' =>
      (e = .returned (.bool true) ∧ J (pre ++ [x]) W' ∧ Below n₀ W W') ∨ (e = .returned (.bool false) ∧ Jx (pre ++ [x]) W'))
    (W : World) (hBs : W.cell? ⟨Bs, 0, none⟩ = some (.slice A (size * N) cap)) (hBn : W.cell? ⟨Bn, 0, none⟩ = some (.int .i64 (size : Int))) (h0 : J [] W) :
    CallsIn Fence.wide n Try.prog 88 #[.func (.yield l) #[] #[], .pointer (some ⟨Bs, 0, none⟩), .pointer (some ⟨Bn, 0, none⟩)] W fun e W' => (∃ v, e = .returned v) ∧
      ((∃ ys, ys = List.range N ∧ J ys W') ∨ (∃ pre, (∃ k, k ≤ N ∧ pre = List.range k) ∧ Jx pre W')) := by
  have hsn : size * N ≤ 4096 := Nat.le_trans (Nat.mul_le_mul hs1 hN) (by omega)
  refine callsIn_of_wp Try.func88 rfl trivial ?_ rfl
  simp only [Try.ntmps88, List.size_toArray, List.length_cons, List.length_nil, Nat.reduceAdd, Nat.reduceSub, Array.replicate_succ, Array.replicate_zero, List.push_toArray, List.append_toArray, List.nil_append, List.cons_append]
  gi_wp2
  gi_loopw [4, 5] (fun i _ wr => ∃ k : Nat, k ≤ N ∧ i = .int .i64 ((size * k : Nat) : Int) ∧ J (List.range k) wr ∧ Hid (Below n₀ W wr)) (fun i _ _ => size * N - (intOf i).toNat)
  case atStart => exact ⟨0, Nat.zero_le _, rfl, h0, Below.refl _ _⟩
  case round =>
    obtain ⟨k, hk, rfl, hJs, hnx⟩ := hrel
    have c0 := (hnx.out.cell (p := ⟨Bs, 0, none⟩) hbs).trans hBs
    have c1 := (hnx.out.cell (p := ⟨Bn, 0, none⟩) hbn).trans hBn
    by_cases hlt : k < N
    · obtain rfl := hA (by omega)
      have hch : chunkV b o size k = .slice (some ⟨b, o + size * k, none⟩) size size := rfl
      have hmul : size * (k + 1) ≤ size * N := Nat.mul_le_mul_left _ hlt
      rw [Nat.mul_succ] at hmul
      have hnext : Hid (size * (k + 1) = size * k + size) := Nat.mul_succ _ _
      generalize size * k = sk at *
      generalize hSN : size * N = SN at *
      replace hSN := Lib.hid hSN
      have r3 := run_cut3 b o SN cap sk size (by omega) hs0
      have r1 : ∀ W, (Instr.slice 22 (.slice (some ⟨b, o, none⟩) SN cap) (some (.int .i64 (sk : Int))) none none).run Try.prog W = .ok (.slice (some ⟨b, o + sk, none⟩) (SN - sk) (cap - sk)) W := fun W => by
        have := run_cut_from (P := Try.prog) 22 Try.underlying22 1 byte_size (some ⟨b, o, none⟩) SN cap .i64 (sk : Int) (by omega) (by omega) W
        rw [Int.toNat_natCast, cutA, if_neg (by omega), Option.map_some, add_zero', Nat.mul_one] at this
        exact this
      have i0 : (sk : Int) < (SN : Int) := by omega
      have i1 : ¬ (((SN - sk : Nat) : Int) < (size : Int)) := by omega
      have i2 : ¬ ((SN : Int) - (sk : Int) < (size : Int)) := by omega
      have i3 : (sk : Int) ≤ (SN : Int) := by omega
      have i4 : min (size : Int) ((SN - sk : Nat) : Int) = (size : Int) := by omega
      replace hch := Lib.hid hch
      gi_wp2
      gi_quiet (fail)
      have hJq : J (List.range k) (wr.drewN nq) := hJ _ _ _ none hJs ⟨rfl, rfl, rfl, Nat.le_refl _, fun _ _ _ => rfl⟩ (fun r e => by cases e)
      obtain ⟨fn, tmps, assign, body, hy, hR⟩ := hY _ k (wr.drewN nq) hJq (by rw [List.length_range]; exact hlt)
      rw [hch.out] at hy
      have hxq : Hid (Below n₀ W (wr.drewN nq)) := below_drewN hnx.out nq
      rw [← range_snoc] at hR
      have c0q : (wr.drewN nq).cell? ⟨Bs, 0, none⟩ = some (.slice (some ⟨b, o, none⟩) SN cap) := c0
      clear hJq hJs hnx c0 c1
      generalize wr.drewN nq = wq at *
      gi_wp2
      refine hR.mono ?_
      rintro e W3 (⟨rfl, hJ3, hk3⟩ | ⟨rfl, hJx3⟩)
      · have c1 := (hxq.out.cell (p := ⟨Bn, 0, none⟩) hbn).trans hBn
        have c2 := (hk3.cell (p := ⟨Bn, 0, none⟩) hbn).trans c1
        have hx3 : Hid (Below n₀ W W3) := hxq.out.trans hk3
        clear hk3 hxq c1
        gi_wp2
        go_roundw
        case rel => exact ⟨k + 1, by omega, by rw [hnext.out]; go_num, hJ3, hx3⟩
        case measure => simp [intOf]; omega
      · gi_wp2
        refine bodyPost_ret (results_none rfl _ _ _) rfl ?_
        exact ⟨⟨_, rfl⟩, .inr ⟨_, ⟨k + 1, by omega, rfl⟩, hJx3⟩⟩
    · obtain rfl : k = N := by omega
      generalize size * k = SN at *
      gi_wp2
      go_end0
      exact ⟨⟨_, rfl⟩, .inl ⟨_, rfl, hJs⟩⟩
theorem chunk_stops (n : Nat) (hn : 1 ≤ n) (Bs Bn n₀ b o cap size N : Nat) (A : Option Addr) (hA : 0 < N → A = some ⟨b, o, none⟩) (hs0 : 0 < size) (hs1 : size ≤ 64) (hN : N ≤ 64) (hcap : size * N ≤ cap) (hbs : Bs < n₀) (hbn : Bn < n₀) (w : World) (hn0 : n₀ ≤ w.heap.size)
    (hBs : w.cell? ⟨Bs, 0, none⟩ = some (.slice A (size * N) cap)) (hBn : w.cell? ⟨Bn, 0, none⟩ = some (.int .i64 (size : Int))) :
    SeqStopsK Fence.wide n Try.prog 88 #[.pointer (some ⟨Bs, 0, none⟩), .pointer (some ⟨Bn, 0, none⟩)] (fun k : Nat => #[chunkV b o size k]) (Below n₀) (fun ys => ys = List.range N) (fun pre => ∃ k, k ≤ N ∧ pre = List.range k) N w := fun l J Jx W hW hJ _ hY h0 =>
  chunk1_in n hn l Bs Bn n₀ b o cap size N A hA hs0 hs1 hN hcap hbs hbn J Jx W.heap.size hJ hY W ((hW.cell (p := ⟨Bs, 0, none⟩) (by dsimp only; omega)).trans hBs) ((hW.cell (p := ⟨Bn, 0, none⟩) (by dsimp only; omega)).trans hBn) h0
set_option maxRecDepth 100000 in
set_option maxHeartbeats 2000000 in
theorem appendSeq_in (n : Nat) (hn : 3 ≤ n) (Bs Bn b o cap size N : Nat) (A : Option Addr) (hA : 0 < N → A = some ⟨b, o, none⟩) (hs0 : 0 < size) (hs1 : size ≤ 64) (hN : N ≤ 64) (hcap : size * N ≤ cap) (w : World) (hbs : Bs < w.heap.size) (hbn : Bn < w.heap.size)
    (hBs : w.cell? ⟨Bs, 0, none⟩ = some (.slice A (size * N) cap)) (hBn : w.cell? ⟨Bn, 0, none⟩ = some (.int .i64 (size : Int))) :
    CallsIn Fence.wide n Try.prog 87 #[.slice none 0 0, .func (.func 88) #[] #[.pointer (some ⟨Bs, 0, none⟩), .pointer (some ⟨Bn, 0, none⟩)]] w fun e W' => ∃ v, e = .returned v ∧ W'.ownsRow w.heap.size 22 1 v (List.range N).length ((List.range N).map (chunkV b o size)) ∧ Below w.heap.size w W' := by
  have h1 : 1 ≤ n := by omega
  obtain ⟨i0, hi, hz0, hz1, hz2⟩ := info_parts slice_info
  refine callsIn_of_wp_marks Try.func87 rfl trivial ?_ rfl
  simp only [Try.ntmps87, List.size_toArray, List.length_cons, List.length_nil, Nat.reduceAdd, Nat.reduceSub, Array.replicate_succ, Array.replicate_zero, List.push_toArray, List.append_toArray, List.nil_append, List.cons_append]
  gi_wp2
  have bO := Boxed.new w 41 (.slice none 0 0)
  have hB0 : Below w.heap.size w (w.alloc (.cells #[.slice none 0 0] 41)) := balloc w _
  refine wpIn_rangeFunc_ownG rfl h1 (gf := 88) (lb := #[.pointer (some ⟨Bs, 0, none⟩), .pointer (some ⟨Bn, 0, none⟩)]) rfl trivial (enters_of Try.func88 (by kernel_rfl) rfl)
    (chunk_stops (n - 1) (by omega) Bs Bn w.heap.size b o cap size N A hA hs0 hs1 hN hcap hbs hbn _ (by simp) ((hB0.cell (p := ⟨Bs, 0, none⟩) hbs).trans hBs) ((hB0.cell (p := ⟨Bn, 0, none⟩) hbn).trans hBn)) belowK_t (belowK_b (by simp)) (Below.refl _ _) (fun _ => rfl)
    (fun pre W => (∃ v, Boxed W w.heap.size 41 v ∧ W.ownsRow w.heap.size 22 1 v pre.length (pre.map (chunkV b o size)) ∧ True) ∧ Below w.heap.size w W)
    (fun _ _ _ => False)
    (OwnFrom.and (Own.from (holdsRow_own w.heap.size w.heap.size 41 22 1 (fun pre : List Nat => pre.length) (fun pre => pre.map (chunkV b o size)) (fun _ _ => True)) _) (ownFrom_below (Nat.le_refl _) (by simp)))
    (fun _ _ _ _ _ hs _ _ => hs)
    ⟨⟨_, bO, World.ownsRow_nil _ _ _ _, trivial⟩, hB0⟩
    (fun k => { tmps := #[.slice none 0 0, .func (.func 88) #[] #[.pointer (some ⟨Bs, 0, none⟩), .pointer (some ⟨Bn, 0, none⟩)], .pointer (some ⟨w.heap.size, 0, none⟩), undef, .slice none 0 0, .slice (some ⟨b, o + size * k, none⟩) size size, .func (.func 88) #[] #[.pointer (some ⟨Bs, 0, none⟩), .pointer (some ⟨Bn, 0, none⟩)], .slice (some ⟨b, o + size * k, none⟩) size size, undef, undef, undef, undef, undef], defers := [] }) ?assign ?body ?done ?stop
  case assign =>
    intro l x W K hK
    gi_wp2
    exact hK
  case body =>
    rintro l pre x W ⟨⟨v, hv, hrow, -⟩, hB⟩ hlt
    have hc := hv.cell
    have hcx : chunkV b o size x = .slice (some ⟨b, o + size * x, none⟩) size size := rfl
    generalize (⟨b, o + size * x, none⟩ : Addr) = ad at *
    replace hcx := Lib.hid hcx
    gi_wp2_with (gi_at_builtin; refine wpListIn_append_own _ rfl _ _ 41 rfl w.heap.size 22 i0 (.slice none 0 0) 1 24 Try.underlying41 hi hz0 hz1 hz2 rfl (by decide) _ _ _ rfl (hrow.alloc _) ⟨W.heap.size, 0, none⟩ 1 1 [.slice (some ad) size size] rfl rfl (cell_one_new _ _ _) (by simp [Value.oneCell']) (by unfold maxLen; omega) (by omega) (by have := hB.size; simp; omega) ?_; intro v' w1 hown' hgrow _; obtain ⟨g', cap', rfl⟩ := ownsRow_succ hown'; obtain ⟨hv1, hv2, hr2, hk2, hb2⟩ := hv.appended (by decide) hrow hB.size (Nat.le_refl _) hown' hgrow; have hc1 := hv1.cell; have hf1 := hv1.frozen)
    exact ⟨hk2.from _, hb2, ⟨_, hv2, by rw [List.map_append, List.map_singleton, hcx.out, List.length_append, List.length_singleton]; exact hr2, trivial⟩, hB.trans hb2⟩
  case done =>
    rintro D ys W hD rfl ⟨⟨v, hv, hrow, -⟩, hB⟩ hK
    have hc := hv.cell
    gi_wp2
    refine ⟨by simp, .inl ⟨_, _, rfl, run_takeDeferred hK, ?_⟩⟩
    exact ⟨_, results_tmp rfl _ _ _, v, rfl, ownsRow_putObj hrow _ hK rfl, hB.trans (belowK_b (w := w) (Nat.le_refl _) W D _ _ (by simp at hD; omega) hK rfl rfl)⟩
  case stop =>
    rintro D c pre W _ _ h _
    exact h.elim
end
section
open Go.RowKit Go.Shelf
set_option linter.unusedVariables false
attribute [local go_sem ↓] Go.wp_at_zero Go.wp_at_succ
theorem cutL_get (size n : Nat) (l : Bs) (k : Nat) (hk : k < n) : (cutL size n l).getD k [] = (l.drop (size * k)).take size := by
  induction n generalizing l k with
  | zero => omega
  | succ n ih =>
    cases k with
    | zero => simp [cutL]
    | succ k =>
      rw [cutL, List.getD_cons_succ, ih _ k (by omega), List.drop_drop, Nat.mul_succ, Nat.add_comm]
theorem chunk_sees {w : World} {B b o n c size k : Nat} {l : Bs} (h : SeesB w B (.slice (some ⟨b, o, none⟩) n c) l) (hk : size * k + size ≤ l.length) (hs : size ≤ 64) :
    SeesB w B (chunkV b o size k) ((l.drop (size * k)).take size) := by
  have hl : ((l.drop (size * k)).take size).length = size := by rw [List.length_take, List.length_drop]; omega
  unfold SeesB chunkV
  rw [hl]
  refine ⟨by rw [vb_len, hl, Nat.mul_one], _, size, rfl, Nat.le_refl _, by unfold maxLen; omega, fun h0 => ?_⟩
  obtain ⟨b', o', e, hb, hcell⟩ := h.at_ (by omega)
  cases e
  refine ⟨b, o + size * k, rfl, hb, fun j x hj => ?_⟩
  rw [vb_get, List.getElem?_take] at hj
  split at hj
  · rw [List.getElem?_drop] at hj
    obtain ⟨y, hy, rfl⟩ := Option.map_eq_some_iff.1 hj
    rw [Nat.add_assoc, hcell _ (List.getElem?_eq_some_iff.1 hy).1, List.getD_eq_getElem?_getD, hy]
    rfl
  · cases hj
set_option maxRecDepth 100000 in
theorem collect_any (Bs Bn b o cap size N : Nat) (A : Option Addr) (hA : 0 < N → A = some ⟨b, o, none⟩) (hs0 : 0 < size) (hs1 : size ≤ 64) (hN : N ≤ 64) (hcap : size * N ≤ cap) (w : World) (hbs : Bs < w.heap.size) (hbn : Bn < w.heap.size)
    (hBs : w.cell? ⟨Bs, 0, none⟩ = some (.slice A (size * N) cap)) (hBn : w.cell? ⟨Bn, 0, none⟩ = some (.int .i64 (size : Int))) :
    Calls Try.prog 82 #[.func (.func 88) #[] #[.pointer (some ⟨Bs, 0, none⟩), .pointer (some ⟨Bn, 0, none⟩)]] w fun e W' => ∃ v, e = .returned v ∧ W'.ownsRow w.heap.size 22 1 v (List.range N).length ((List.range N).map (chunkV b o size)) ∧ Below w.heap.size w W' := by
  have h := Lib.hid (callsIn_wide.1 (appendSeq_in 3 (by omega) Bs Bn b o cap size N A hA hs0 hs1 hN hcap w hbs hbn hBs hBn))
  clear hBs hBn hA hcap
  go_enter Try.func82, Try.ntmps82
  go_wp2_with fail
  refine h.out.mono ?_
  rintro e w1 ⟨v, rfl, h1, hb1⟩
  dsimp only
  go_wp2_with fail
  go_ret
  exact ⟨v, rfl, h1, hb1⟩
set_option maxRecDepth 100000 in
theorem chunk_any (A : Option Addr) (n c size : Nat) (hs0 : 0 < size) (w : World) :
    Calls Try.prog 83 #[.slice A n c, .int .i64 (size : Int)] w fun e w' => e = .returned (.func (.func 88) #[] #[.pointer (some ⟨w.heap.size, 0, none⟩), .pointer (some ⟨w.heap.size + 1, 0, none⟩)]) ∧ w' = (w.alloc (.cells #[.slice A n c] 22)).alloc (.cells #[.int .i64 (size : Int)] 3) := by
  have i0 : ¬ ((size : Int) < 1) := by omega
  go_enter Try.func83, Try.ntmps83
  go_wp2_with fail
  go_ret
  exact ⟨rfl, rfl⟩
set_option maxRecDepth 100000 in
theorem parts_any (B : Nat) (u : Value) (l : Bs) (size N : Nat) (w : World) (hu : SeesB w B u l) (hB : B ≤ w.heap.size) (hs0 : 0 < size) (hs1 : size ≤ 64) (hN : N ≤ 64) (hl : l.length = size * N) :
    Calls Try.prog 72 #[u, .int .i64 (size : Int)] w (GivesL (cutL size N l) w) := by
  obtain ⟨A, c, rfl, hc1, hc2⟩ := hu.mk_
  have hA : ∃ b o, 0 < N → A = some ⟨b, o, none⟩ := by
    rcases Nat.eq_zero_or_pos N with h0 | h0
    · exact ⟨0, 0, fun h => by omega⟩
    · obtain ⟨b, o, e, -⟩ := hu.at_ (by rw [hl]; exact Nat.mul_pos hs0 h0)
      exact ⟨b, o, fun _ => e⟩
  obtain ⟨b, o, hA⟩ := hA
  have hck := Lib.hid (chunk_any A l.length c size hs0 w)
  have hb1 : Below w.heap.size w ((w.alloc (.cells #[.slice A l.length c] 22)).alloc (.cells #[.int .i64 (size : Int)] 3)) := bgo (balloc w _) (balloc _ _)
  have hx1 := Box.below (Box.new w 22 [.slice A l.length c]) (balloc _ (.cells #[.int .i64 (size : Int)] 3))
  have hx2 := Box.new (w.alloc (.cells #[.slice A l.length c] 22)) 3 [.int .i64 (size : Int)]
  have hz : (w.alloc (.cells #[.slice A l.length c] 22)).heap.size = w.heap.size + 1 := World.size_alloc _ _
  rw [hz] at hx2
  change Box ((w.alloc (.cells #[.slice A l.length c] 22)).alloc (.cells #[.int .i64 (size : Int)] 3)) _ _ _ at hx1 hx2
  generalize (w.alloc (.cells #[.slice A l.length c] 22)).alloc (.cells #[.int .i64 (size : Int)] 3) = W1 at *
  have hco := Lib.hid (collect_any w.heap.size (w.heap.size + 1) b o c size N A hA hs0 hs1 hN (by omega) W1 hx1.lt hx2.lt (by rw [← hl]; exact hx1.cell 0) (hx2.cell 0))
  have hfin : Hid (∀ W2 v, W2.ownsRow W1.heap.size 22 1 v (List.range N).length ((List.range N).map (chunkV b o size)) → Below W1.heap.size W1 W2 → OwnL W2 w.heap.size v (cutL size N l)) := by
    intro W2 v h1 h2
    have hb2 := bgo hb1 h2
    have hu2 := hu.below (hb2.mono hB)
    refine ⟨(List.range N).map (chunkV b o size), ?_, fun k hk => ?_⟩
    · rw [cutL_len]
      rw [List.length_range] at h1
      refine ⟨h1.1, ?_⟩
      rcases h1.2 with h | ⟨g, cap, cur, e1, e2, e3⟩
      · exact .inl h
      · exact .inr ⟨g, cap, cur, e1, by have := hb1.size; omega, e3⟩
    · rw [cutL_len] at hk
      have hm : size * k + size ≤ l.length := by
        rw [hl, ← Nat.mul_succ]; exact Nat.mul_le_mul_left _ hk
      obtain rfl := hA (by omega)
      refine ⟨chunkV b o size k, by rw [List.getElem?_map, List.getElem?_range hk]; rfl, ?_⟩
      rw [cutL_get _ _ _ _ hk]
      exact Elt.of_old (chunk_sees hu2 hm hs1) (Nat.le_trans hB hb2.size) (fun j hj => by have := (h1.lt j hj).1; have := hb1.size; omega)
  replace hb1 := Lib.hid hb1
  clear hx1 hx2 hu hA hl
  go_enter Try.func72, Try.ntmps72
  go_wp2_with fail
  refine hck.out.mono ?_
  rintro e w1 ⟨rfl, rfl⟩
  dsimp only
  go_wp2_with fail
  refine hco.out.mono ?_
  rintro e w2 ⟨v, rfl, h1, hb2⟩
  dsimp only
  go_wp2_with fail
  go_ret
  exact ⟨v, rfl, hfin.out _ _ h1 hb2, bgo hb1.out hb2⟩
end
end Go.Proofs.Ytpdphpekgphniaa

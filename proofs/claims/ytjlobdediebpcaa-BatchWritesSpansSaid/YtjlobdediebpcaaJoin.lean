/- Contracts of slices.Grow at nil, slices.Concat of lists of bytes, octets.Join, sectimeref01.Join: the lists behind each other, in a row of the call's own. Conditions: those of each theorem. -/
import Derived.Test.YtjlobdediebpcaaOctA
import Derived.Lib.AppendZeros
import Derived.OwnWalk
namespace Go.Proofs.Ytjlobdediebpcaa
open Go.RowKit
set_option linter.unusedVariables false
attribute [local go_sem ↓] Go.wp_at_zero Go.wp_at_succ
theorem zeroCells_size (n : Nat) : (Builtin.zeroCells (Value.int .u8 0).cells n).size = n := by simp [Builtin.zeroCells, Value.cells]
set_option maxRecDepth 100000 in
theorem grow_any (n : Nat) (hn : n ≤ 140737488355328) (w : World) :
    Calls Try.prog 113 #[.slice none 0 0, .int .i64 (n : Int)] w (Gives [] w) := by
  obtain ⟨i, hi, hz, hs, hb⟩ := info_parts byte_info
  have n0 : ¬ ((n : Int) < 0) := by omega
  go_enter Try.func113, Try.ntmps113
  by_cases h0 : n = 0
  · subst h0
    go_wp2_with fail
    go_ret
    exact ⟨_, rfl, World.ownsRow_nil w _ _ _, Below.refl _ _⟩
  · have h1 : (0 : Int) < (n : Int) := by omega
    have hr := Lib.run_append_nil_zeros (P := Try.prog) w 24 3 24 5 i (.int .u8 0) .i64 .i64 Try.underlying24 Try.underlying3 hi hz n (by omega) (by omega) (by omega) (by rw [hb]; omega)
    go_wp2_with (at_builtin; refine Lib.wpList_append_run _ rfl _ _ _ _ rfl _ _ rfl rfl _ _ hr ?_)
    go_ret
    refine ⟨.slice (some ⟨w.heap.size, 0, none⟩) 0 (grownCap w n 0 5), rfl, ?_, ((Below.refl _ _).alloc (Nat.le_refl _) _).drew⟩
    have hg := grownCap_ge w n 0 5
    exact (World.ownsRow_made (base := w.heap.size) (e := 5) (size := 1) w _ (grownCap w n 0 5) (Nat.le_refl _) (grownCap_le_maxLen w n 0 5 (by unfold maxLen; omega)) (by
      have h1 := zeroCells_size n
      have h2 := zeroCells_size (grownCap w n 0 5 - n)
      rw [Array.size_append]
      simp only [Value.cells] at h1 h2 ⊢
      omega)).drew
theorem below_of_grown {w w' : World} {base : Nat} {v : Value} {l : Bs} (h : OwnB w base v l) (hg : w.grownBy w' v.ownBlock) (hb : base ≤ w.heap.size) : Below base w w' := by
  refine ⟨hg.os, hg.tape, hg.output, hg.size, fun k hk => hg.block k (by omega) (fun e => ?_)⟩
  have := (h.lt k e.symm).1
  omega
/-- append of bytes onto a row of the call's own, the source whatever slice is seen. -/
theorem wpList_app {ops : Array Oper} {rest : List Oper} {o : Oper} {a : Act} {w : World} {Q : Exit → Act → World → Prop} (hgd : Region.wanted o (yielded ops a.tmps) = true) (s x : Operand)
    (ho : o.op = .call { callee := .builtin .append, args := #[s, x], argTypes := #[24, 24] })
    (base : Nat) (v : Value) (l : Bs) (hs : a.eval s = v) (hown : OwnB w base v l) (B : Nat) (u : Value) (m : Bs) (hx : a.eval x = u) (hr : SeesB w B u m)
    (hlen : l.length + m.length ≤ 140737488355328) (hbase : base ≤ w.heap.size)
    (h : ∀ v' w', OwnB w' base v' (l ++ m) → Below base w w' → wpList Try.prog ops Q rest (a.put o.dst v') w') : wpList Try.prog ops Q (o :: rest) a w := by
  obtain ⟨i, hi, hz, hsz, hby⟩ := info_parts byte_info
  refine wpList_append_sees hgd s x 24 ho base 5 i (.int .u8 0) 1 1 Try.underlying24 hi hz hsz hby rfl (by omega) v l.length (vb l) hs hown B u m.length (vb m) hx hr (vb_one m) (by unfold maxLen; omega) (by omega) hbase ?_
  intro v' w' h1 h2 h3
  refine h v' w' ?_ (below_of_grown hown h2 hbase)
  unfold OwnB
  rw [vb_append, List.length_append]
  exact h1
/-- The value shows these lists of bytes. -/
def SeesL (w : World) (B : Nat) (u : Value) (ls : List Bs) : Prop := ∃ vs : List Value, Sees w B u 1 ls.length vs ∧ ∀ k, k < ls.length → ∃ v, vs[k]? = some v ∧ SeesB w B v (ls.getD k [])
theorem SeesL.mk_ {w : World} {B : Nat} {u : Value} {ls : List Bs} (h : SeesL w B u ls) : ∃ A c, u = .slice A ls.length c ∧ ls.length ≤ c ∧ c ≤ maxLen := by
  obtain ⟨vs, h, _⟩ := h
  exact h.mk_
theorem SeesL.at_ {w : World} {B : Nat} {A : Option Addr} {n c : Nat} {ls : List Bs} (h : SeesL w B (.slice A n c) ls) (hn : 0 < ls.length) :
    ∃ b o, A = some ⟨b, o, none⟩ ∧ b < B ∧ ∀ k, k < ls.length → ∃ A' c', w.cell? ⟨b, o + k, none⟩ = some (.slice A' (ls.getD k []).length c') ∧ (ls.getD k []).length ≤ c' ∧ c' ≤ maxLen ∧ SeesB w B (.slice A' (ls.getD k []).length c') (ls.getD k []) := by
  obtain ⟨vs, hs, hv⟩ := h
  have hs' := hs
  obtain ⟨_, A', c', e, h1, h2, h3⟩ := hs
  injection e with e1 e2 e3
  subst e1 e2 e3
  obtain ⟨b, o, e, hb, hc⟩ := h3 hn
  refine ⟨b, o, e, hb, fun k hk => ?_⟩
  obtain ⟨v, hv1, hv2⟩ := hv k hk
  obtain ⟨A2, c2, rfl, g1, g2⟩ := hv2.mk_
  exact ⟨A2, c2, hc k _ hv1, g1, g2, hv2⟩
theorem SeesL.below {w w' : World} {B : Nat} {u : Value} {ls : List Bs} (h : SeesL w B u ls) (hb : Below B w w') : SeesL w' B u ls := by
  obtain ⟨vs, hs, hv⟩ := h
  exact ⟨vs, hs.below hb, fun k hk => by obtain ⟨v, h1, h2⟩ := hv k hk; exact ⟨v, h1, h2.below hb⟩⟩
/-- The length of the first k lists. -/
def sumL (ls : List Bs) (k : Nat) : Nat := (ls.take k).flatten.length
theorem flat_step (ls : List Bs) (k : Nat) (h : k < ls.length) : (ls.take (k + 1)).flatten = (ls.take k).flatten ++ ls.getD k [] := by
  rw [List.take_succ_eq_append_getElem h, List.flatten_append, List.getD_eq_getElem?_getD, List.getElem?_eq_getElem h]
  simp
theorem flat_le (ls : List Bs) (k : Nat) : (ls.take k).flatten.length ≤ ls.flatten.length := by
  conv => rhs; rw [← List.take_append_drop k ls, List.flatten_append, List.length_append]
  omega
theorem slice_size (w : World) : (sizeOf 24).run Try.prog w = .ok 1 w := by kernel_rfl
set_option maxRecDepth 100000 in
theorem rjoin_any (B : Nat) (u : Value) (ls : List Bs) (w : World) (hu : SeesL w B u ls) (hB : B ≤ w.heap.size) (hlen : ls.flatten.length ≤ 1099511627776) :
    Calls Try.prog 39 #[u] w (Gives ls.flatten w) := by
  obtain ⟨A, c, rfl, hc1, hc2⟩ := hu.mk_
  have hm : ls.length ≤ 9223372036854775807 := by unfold maxLen at hc2; omega
  obtain ⟨i, hi, hz, hs, hby⟩ := info_parts byte_info
  go_enter Try.func39, Try.ntmps39
  go_wp2_with fail
  refine wp_fresh (fun W => OwnB W w.heap.size (.slice (some ⟨w.heap.size, 0, none⟩) 0 0) [] ∧ Below w.heap.size w W) ⟨own_made w [] (Nat.zero_le _) _ (Nat.le_refl _), (Below.refl _ _).alloc (Nat.le_refl _) _⟩ ?_
  rintro W0 ⟨hW, hbw⟩
  go_loopw [3, 4] (fun r t wr => ∃ k : Nat, k ≤ ls.length ∧ t = .int .i64 k ∧ OwnB wr w.heap.size r (ls.take k).flatten ∧ Below w.heap.size w wr) (fun _ t _ => ls.length - (intOf t).toNat)
  case atStart => exact ⟨0, by omega, rfl, hW, hbw⟩
  case round =>
    clear hW hbw
    obtain ⟨k, hk, rfl, hW, hbw⟩ := hrel
    have hW := Lib.hid hW
    have hbw := Lib.hid hbw
    by_cases hlt : k < ls.length
    · obtain ⟨b, o, rfl, hb, hcell⟩ := hu.at_ (by omega)
      obtain ⟨A', c', hc, g1, g2, hsee⟩ := hcell k hlt
      have x0 := (hbw.out.cell (p := ⟨b, o + k, none⟩) (by dsimp only; omega)).trans hc
      have hsee2 := Lib.hid (hsee.below (hbw.out.mono hB))
      have hst := Lib.hid (flat_step ls k hlt)
      have hle := flat_le ls (k + 1)
      rw [hst.out, List.length_append] at hle
      generalize ls.getD k [] = m at *
      clear hc hcell hu hsee
      have i0 : (0 : Int) ≤ (k : Int) := by omega
      have i1 : (k : Int) < (ls.length : Int) := by omega
      go_wp2_with (at_builtin; refine wpList_app (by rfl) _ _ rfl w.heap.size _ _ rfl hW.out B _ m rfl hsee2.out (by omega) hbw.out.size ?_)
      intro v' w' hW2 hb2
      have hW2 := Lib.hid hW2
      have hb2 := Lib.hid hb2
      go_wp2_with fail
      go_roundw
      case rel => exact ⟨k + 1, by omega, by go_num, by rw [hst.out]; exact hW2.out, hbw.out.trans hb2.out⟩
      case measure => simp [intOf]; omega
    · have he : (ls.take k).flatten = ls.flatten := by rw [List.take_of_length_le (by omega)]
      rw [he] at hW
      go_wp2_with fail
      go_ret
      exact ⟨_, rfl, hW.out, hbw.out⟩
theorem sum_step (ls : List Bs) (k : Nat) (h : k < ls.length) : sumL ls (k + 1) = sumL ls k + (ls.getD k []).length := by
  unfold sumL; rw [flat_step ls k h, List.length_append]
set_option maxRecDepth 100000 in
theorem concat_any (B : Nat) (u : Value) (ls : List Bs) (w : World) (hu : SeesL w B u ls) (hB : B ≤ w.heap.size) (hlen : ls.flatten.length ≤ 1099511627776) :
    Calls Try.prog 74 #[u] w (Gives ls.flatten w) := by
  obtain ⟨A, c, rfl, hc1, hc2⟩ := hu.mk_
  have hm : ls.length ≤ 9223372036854775807 := by unfold maxLen at hc2; omega
  go_enter Try.func74, Try.ntmps74
  go_wp2_with fail
  go_loopw [3, 5, 11] (fun s _ t wr => ∃ k : Nat, k ≤ ls.length ∧ s = .int .i64 (sumL ls k : Int) ∧ t = .int .i64 k ∧ wr = w) (fun _ _ t _ => ls.length - (intOf t).toNat)
  case atStart => exact ⟨0, by omega, rfl, rfl, rfl⟩
  case round =>
    obtain ⟨k, hk, rfl, rfl, rfl⟩ := hrel
    by_cases hlt : k < ls.length
    · obtain ⟨b, o, rfl, hb, hcell⟩ := hu.at_ (by omega)
      obtain ⟨A', c', hc, g1, g2, hsee⟩ := hcell k hlt
      have hst := Lib.hid (sum_step ls k hlt)
      have hle := flat_le ls (k + 1)
      have hd : (ls.take (k + 1)).flatten.length = sumL ls (k + 1) := rfl
      rw [hd, hst.out] at hle
      generalize sumL ls k = s at *
      generalize ls.getD k [] = m at *
      clear hcell hu hsee hd
      have i0 : (0 : Int) ≤ (k : Int) := by omega
      have i1 : (k : Int) < (ls.length : Int) := by omega
      have i2 : ¬ ((s : Int) + (m.length : Int) < 0) := by omega
      go_wp2_with fail
      go_roundw
      case rel => exact ⟨k + 1, by omega, by rw [hst.out]; rfl, by go_num, trivial⟩
      case measure => simp [intOf]; omega
    · obtain ⟨s, hs⟩ : ∃ s, sumL ls k = s := ⟨_, rfl⟩
      have hs2 : s ≤ 1099511627776 := by rw [← hs]; exact Nat.le_trans (flat_le ls k) hlen
      rw [hs]
      have hu' := Lib.hid hu
      have hB' := Lib.hid hB
      clear hu hB
      go_wp2_with (go_at_call 113; refine (grow_any s (by omega) _).mono ?_; rintro e w' ⟨v, rfl, hW, hbw⟩)
      have hW := Lib.hid hW
      have hbw := Lib.hid hbw
      rename_i kk _ _
      obtain ⟨w, rfl⟩ : ∃ w0 : World, w0 = wr := ⟨_, rfl⟩
      go_loopw [6, 8, 27] (fun r _ t wr => ∃ k : Nat, k ≤ ls.length ∧ t = .int .i64 k ∧ Hid (OwnB wr w.heap.size r (ls.take k).flatten) ∧ Hid (Below w.heap.size w wr)) (fun _ _ t _ => ls.length - (intOf t).toNat)
      case atStart => exact ⟨0, by omega, rfl, hW, hbw⟩
      case round =>
        clear hW hbw
        obtain ⟨k, hk, rfl, hW, hbw⟩ := hrel
        by_cases hlt : k < ls.length
        · obtain ⟨b, o, rfl, hb, hcell⟩ := hu'.out.at_ (by omega)
          obtain ⟨A', c', hc, g1, g2, hsee⟩ := hcell k hlt
          have hb' : b < w.heap.size := Nat.lt_of_lt_of_le hb hB'.out
          have x0 := (hbw.out.cell (p := ⟨b, o + k, none⟩) hb').trans hc
          have hsee2 := Lib.hid (hsee.below (hbw.out.mono hB'.out))
          have hst := Lib.hid (flat_step ls k hlt)
          have hle := flat_le ls (k + 1)
          rw [hst.out, List.length_append] at hle
          generalize ls.getD k [] = m at *
          clear hc hcell hu' hsee
          have i0 : (0 : Int) ≤ (k : Int) := by omega
          have i1 : (k : Int) < (ls.length : Int) := by omega
          go_wp2_with (at_builtin; refine wpList_app (by rfl) _ _ rfl w.heap.size _ _ rfl hW.out B _ m rfl hsee2.out (by omega) hbw.out.size ?_)
          intro v' w' hW2 hb2
          have hW2 := Lib.hid hW2
          have hb2 := Lib.hid hb2
          go_wp2_with fail
          go_roundw
          case rel => exact ⟨k + 1, by omega, by go_num, by rw [hst.out]; exact hW2.out, hbw.out.trans hb2.out⟩
          case measure => simp [intOf]; omega
        · have he : (ls.take k).flatten = ls.flatten := by rw [List.take_of_length_le (by omega)]
          rw [he] at hW
          go_wp2_with fail
          go_ret
          exact ⟨_, rfl, hW.out, hbw.out⟩
theorem join_any (B : Nat) (u : Value) (ls : List Bs) (w : World) (hu : SeesL w B u ls) (hB : B ≤ w.heap.size) (hlen : ls.flatten.length ≤ 1099511627776) :
    Calls Try.prog 48 #[u] w (Gives ls.flatten w) := by
  go_enter Try.func48, Try.ntmps48
  go_wp2_with (go_at_call 74; refine (concat_any B u ls _ hu hB hlen).mono ?_; rintro e w' ⟨v, rfl, hW, hbw⟩)
  go_ret
  exact ⟨_, rfl, hW, hbw⟩
end Go.Proofs.Ytjlobdediebpcaa

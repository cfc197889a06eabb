/- Contracts of sectimeworld.Bytes and Key: bytes that follow from a number. Conditions: at most 100000 bytes. -/
import Derived.Test.YtjlobdediebpcaaGreatTower14
namespace Go.Proofs.YtjlobdediebpcaaGreat
open Go.RowKit
set_option linter.unusedVariables false
attribute [local go_sem ↓] Go.wp_at_zero Go.wp_at_succ
def numN (v : Int) : Nat := (v % 18446744073709551616).toNat
def chunkW (seed : Int) (k : Nat) : Bs := sha (putB 8 (numN seed) ++ putB 4 k)
def rowsW (seed : Int) : Nat → Bs
  | 0 => []
  | k + 1 => rowsW seed k ++ chunkW seed k
def bytesW (seed : Int) (n : Nat) : Bs := (rowsW seed ((n + 31) / 32)).take n
theorem rowsW_len (seed : Int) (k : Nat) : (rowsW seed k).length = 32 * k := by
  induction k with
  | zero => rfl
  | succ k ih => rw [rowsW, List.length_append, ih, chunkW, sha_len]; omega
theorem bytesW_len (seed : Int) (n : Nat) : (bytesW seed n).length = n := by
  rw [bytesW, List.length_take, rowsW_len]; omega
theorem From.cutA {base n c m d l s : Nat} {A : Option Addr} (h : From base (.slice A n c)) : From base (.slice (Proofs.YtjlobdediebpcaaGreat.cutA A c l s) m d) := by
  intro a n' c' e
  injection e with e1
  unfold Proofs.YtjlobdediebpcaaGreat.cutA at e1
  split at e1
  · subst e1; exact h a _ _ rfl
  · cases A with
    | none => cases e1
    | some x =>
      injection e1 with e1
      subst e1
      have e2 : (x.add (l * s)).block = x.block := by unfold Addr.add; split <;> rfl
      show base ≤ (x.add (l * s)).block
      rw [e2]
      exact h x _ _ rfl
theorem wput8_any (n : Nat) (h : n < 18446744073709551616) (w : World) : Calls Tryz.prog 15 #[.int .u64 (n : Int), .int .i64 8] w (Gives (putB 8 n) w) := rput_any n 8 (by omega) h w
set_option maxRecDepth 100000 in
theorem wbytes_any (seed : Int) (n : Nat) (hn : n ≤ 100000) (w : World) :
    Calls Tryz.prog 6 #[.int .i64 seed, .int .i64 (n : Int)] w (Shows (bytesW seed n) w) := by
  have hs : numN seed < 18446744073709551616 := by unfold numN; omega
  have m0 : IntKind.u64.wrap seed = (numN seed : Int) := by rw [IntKind.wrap_u64]; unfold numN; omega
  generalize hsd : numN seed = s at *
  replace hsd := Lib.hid hsd
  replace hs := Lib.hid hs
  go_enter Tryz.func6, Tryz.ntmps6
  go_wp2_with fail
  refine wp_fresh (fun W => OwnB W w.heap.size (.slice (some ⟨w.heap.size, 0, none⟩) 0 0) [] ∧ Below w.heap.size w W) ⟨own_made w [] (Nat.zero_le _) _ (Nat.le_refl _), (Below.refl _ _).alloc (Nat.le_refl _) _⟩ ?_
  rintro W1 ⟨ho, hb⟩
  replace ho := Lib.hid ho
  replace hb := Lib.hid hb
  go_loopw [5, 6] (fun r t wr => ∃ k : Nat, 32 * k < n + 32 ∧ t = .int .i64 k ∧ Hid (OwnB wr w.heap.size r (rowsW seed k)) ∧ Hid (Below w.heap.size w wr)) (fun _ t _ => n + 32 - 32 * (intOf t).toNat)
  case atStart => exact ⟨0, by omega, rfl, ho, hb⟩
  case round =>
    clear ho hb
    obtain ⟨k, hk, rfl, ho, hb⟩ := hrel
    have hlen := rowsW_len seed k
    by_cases hlt : 32 * k < n
    · have m1 : IntKind.u64.wrap (k : Int) = (k : Int) := by rw [IntKind.wrap_u64]; omega
      have hst : Hid (rowsW seed (k + 1) = rowsW seed k ++ sha (putB 8 s ++ putB 4 k)) := by show _ = _; rw [rowsW, chunkW, hsd.out]
      have hlc := sha_len (putB 8 s ++ putB 4 k)
      generalize rowsW seed k = acc at *
      obtain ⟨Ar, cr, rfl, -, -⟩ := ho.out.sees.mk_
      have i0 : ((acc.length : Nat) : Int) < (n : Int) := by omega
      replace hlen := Lib.hid hlen
      replace hlc := Lib.hid hlc
      have hp := Lib.hid (wput8_any s hs.out wr)
      go_wp2_with fail
      refine hp.out.mono ?_
      rintro e w1 ⟨v1, rfl, h1, hb1⟩
      obtain ⟨A1, c1, rfl, -, -⟩ := h1.sees.mk_
      have hp2 := Lib.hid (rput4_any k (by omega) w1)
      dsimp only
      go_wp2_with fail
      refine hp2.out.mono ?_
      rintro e w2 ⟨v2, rfl, h2, hb2⟩
      obtain ⟨A2, c2, rfl, -, -⟩ := h2.sees.mk_
      dsimp only
      go_wp2_with fail
      have h12 := h1.below hb2
      have hl3 := seesL_lit w2 22 (show SeesAll w2 w2.heap.size [.slice A1 (putB 8 s).length c1, .slice A2 (putB 4 k).length c2] [putB 8 s, putB 4 k] from ⟨h12.sees, h2.sees, trivial⟩) (by simp [maxLen])
      have hp8 := putB_len 8 s
      have hp4 := putB_len 4 k
      have hfl : [putB 8 s, putB 4 k].flatten = putB 8 s ++ putB 4 k := by simp
      refine (rjoin_any _ _ _ _ hl3 (Nat.le_refl _) (by rw [hfl]; simp [hp8, hp4])).mono ?_
      rintro e w3 ⟨v3, rfl, h3, hb3⟩
      rw [hfl] at h3
      have hw3 := bgo (bgo (bgo hb1 hb2) (balloc w2 _)) hb3
      dsimp only
      go_wp2_with fail
      refine (rsum_any _ _ _ _ h3.sees (Nat.le_refl _) (by simp [hp8, hp4])).mono ?_
      rintro e w4 ⟨v4, rfl, h4, hb4⟩
      replace hw3 := bgo hw3 hb4
      have ho3 := Lib.hid (ho.out.below hw3)
      have hw4 := Lib.hid (bgo hb.out hw3)
      generalize sha (putB 8 s ++ putB 4 k) = ck at *
      have hl4 := Lib.hid (show acc.length + ck.length ≤ 140737488355328 by rw [hlen.out, hlc.out]; omega)
      replace h4 := Lib.hid h4.sees
      clear hw3 hb1 hb2 hb3 hb4 hp hp2 h12 h1 h2 h3 hl3 hb ho
      dsimp only
      go_wp2_with (at_builtin; refine wpList_app (by rfl) _ _ rfl w.heap.size _ acc rfl ho3.out _ _ ck rfl h4.out hl4.out hw4.out.size ?_)
      intro v' w' hW2 hb2
      have hW2 := Lib.hid hW2
      have hb2 := Lib.hid hb2
      go_wp2_with fail
      go_roundw
      case rel => exact ⟨k + 1, by omega, by go_num, by rw [hst.out]; exact hW2.out, hw4.out.trans hb2.out⟩
      case measure => simp [intOf]; omega
    · have hk2 : k = (n + 31) / 32 := by omega
      have hbw : bytesW seed n = (rowsW seed k).take n := by rw [bytesW, ← hk2]
      rw [hbw]
      have h2 := ho.out.sees
      have hf := OwnB.from ho.out
      generalize rowsW seed k = acc at *
      obtain ⟨Ar, cr, rfl, hc1, hc2⟩ := h2.mk_
      have i0 : ¬ (((acc.length : Nat) : Int) < (n : Int)) := by omega
      have hmx : max (n : Int) 0 = (n : Int) := by omega
      have hcut := h2.take (m := n) (c' := cr) (by omega) (by omega) hc2
      have hfr : From w.heap.size (.slice Ar n cr) := hf.cut
      replace hcut := Lib.hid hcut
      replace hfr := Lib.hid hfr
      go_wp2_with fail
      go_returns
      exact ⟨_, rfl, hcut.out, hb.out, hfr.out⟩
set_option maxRecDepth 100000 in
theorem wkey_any (seed : Int) (w : World) : Calls Tryz.prog 4 #[.int .i64 seed] w (Shows (bytesW seed 32) w) := by
  have h := wbytes_any seed 32 (by omega) w
  replace h := Lib.hid h
  go_enter Tryz.func4, Tryz.ntmps4
  go_wp2_with fail
  refine h.out.mono ?_
  rintro e w1 ⟨v1, rfl, h1, hb1, hf1⟩
  dsimp only
  go_wp2_with fail
  go_ret
  exact ⟨v1, rfl, h1, hb1, hf1⟩
end Go.Proofs.YtjlobdediebpcaaGreat

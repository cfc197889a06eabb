/- Contracts of octets.Pad and sectimeref01.Pad at 4: zeros up to a multiple of 4. Conditions: at most 1048576 bytes, which are seen. -/
import Derived.Test.YtkefbjpdpcmpnaaGreatParts2
namespace Go.Proofs.YtkefbjpdpcmpnaaGreat
open Go.RowKit
set_option linter.unusedVariables false
attribute [local go_sem ↓] Go.wp_at_zero Go.wp_at_succ
def pad4 (l : Bs) : Bs := l ++ List.replicate ((4 - l.length % 4) % 4) 0
def lenV : Value → Nat
  | .slice _ n _ => n
  | _ => 0
theorem pad_step (l : Bs) (k : Nat) : l ++ List.replicate (k + 1) (0 : UInt8) = l ++ List.replicate k 0 ++ [0] := by
  rw [List.replicate_succ', List.append_assoc]
theorem pad4_len (l : Bs) : (pad4 l).length = l.length + (4 - l.length % 4) % 4 := by simp [pad4]
set_option maxRecDepth 100000 in
theorem pad_any (B : Nat) (u : Value) (l : Bs) (w : World) (hu : SeesB w B u l) (hB : B ≤ w.heap.size) (hl : l.length ≤ 1048576) :
    Calls Tryz.prog 156 #[u, .int .i64 4] w (Gives (pad4 l) w) := by
  have hc := Lib.hid (clone_any B u l w hu hB (by omega))
  obtain ⟨A, c, rfl, -, -⟩ := hu.mk_
  go_enter Tryz.func156, Tryz.ntmps156
  go_wp2_with fail
  refine hc.out.mono ?_
  rintro e w1 ⟨v1, rfl, h1, hb1⟩
  replace h1 := Lib.hid h1
  replace hb1 := Lib.hid hb1
  clear hc hu
  dsimp only
  go_wp2_with fail
  go_loopw [5] (fun r wr => ∃ k : Nat, k ≤ (4 - l.length % 4) % 4 ∧ Hid (OwnB wr w.heap.size r (l ++ List.replicate k 0)) ∧ Hid (Below w.heap.size w wr)) (fun r _ => l.length + 4 - lenV r)
  case atStart => exact ⟨0, by omega, by show OwnB _ _ _ _; simpa using h1.out, hb1⟩
  case round =>
    clear h1 hb1
    obtain ⟨k, hk, ho, hb⟩ := hrel
    have hlen : (l ++ List.replicate k (0 : UInt8)).length = l.length + k := by simp
    have hst := Lib.hid (pad_step l k)
    obtain ⟨Ar, cr, rfl, -, -⟩ := ho.out.sees.mk_
    by_cases hlt : k < (4 - l.length % 4) % 4
    · have i0 : ¬ ((((l ++ List.replicate k (0 : UInt8)).length : Nat) : Int) % 4 = 0) := by rw [hlen]; omega
      generalize l ++ List.replicate k (0 : UInt8) = acc at *
      replace hlen := Lib.hid hlen
      have hal := balloc wr (.cells #[.int .u8 0] 5)
      have ho2 := Lib.hid (ho.out.below hal)
      have hcl := Lib.hid (one_byte wr 0 0 rfl).sees
      have hb2 := Lib.hid (bgo hb.out hal)
      clear hal
      go_wp2_with (at_builtin; refine wpList_app (by rfl) _ _ rfl w.heap.size _ acc rfl ho2.out _ _ [0] rfl hcl.out (by have := hlen.out; simp; omega) hb2.out.size ?_)
      intro v' w' hW2 hb4
      have hW3 := hW2.sees.mk_
      obtain ⟨A9, c9, rfl, -, -⟩ := hW3
      have hW2 := Lib.hid hW2
      have hb4 := Lib.hid (hb2.out.trans hb4)
      go_wp2_with fail
      go_roundw
      case rel => exact ⟨k + 1, by omega, by rw [hst.out]; exact hW2.out, hb4⟩
      case measure => have := hlen.out; simp [lenV]; omega
    · have i0 : ((((l ++ List.replicate k (0 : UInt8)).length : Nat) : Int) % 4 = 0) := by rw [hlen]; omega
      have hp : Hid (pad4 l = l ++ List.replicate k 0) := by show _ = _; rw [pad4, show (4 - l.length % 4) % 4 = k by omega]
      generalize l ++ List.replicate k (0 : UInt8) = acc at *
      replace hlen := Lib.hid hlen
      go_wp2_with fail
      go_returns
      exact ⟨_, rfl, by rw [hp.out]; exact ho.out, hb.out⟩
set_option maxRecDepth 100000 in
theorem rpad_any (B : Nat) (u : Value) (l : Bs) (w : World) (hu : SeesB w B u l) (hB : B ≤ w.heap.size) (hl : l.length ≤ 1048576) :
    Calls Tryz.prog 94 #[u, .int .i64 4] w (Gives (pad4 l) w) := by
  obtain ⟨A, c, rfl, -, -⟩ := hu.mk_
  have hl3 := seesL_lit w 23 (show SeesAll w w.heap.size [.slice A l.length c] [l] from ⟨hu.more hB, trivial⟩) (by simp [maxLen])
  have hfl : [l].flatten = l := by simp
  have hc := rjoin_any _ _ _ _ hl3 (Nat.le_refl _) (by rw [hfl]; omega)
  rw [hfl] at hc
  replace hc := Lib.hid hc
  clear hl3 hu
  go_enter Tryz.func94, Tryz.ntmps94
  go_wp2_with fail
  refine hc.out.mono ?_
  rintro e w1 ⟨v1, rfl, h1, hb1⟩
  replace h1 := Lib.hid (h1.mono (balloc w (.cells #[.slice A l.length c] 23)).size)
  replace hb1 := Lib.hid (bgo (balloc w _) hb1)
  clear hc
  dsimp only
  go_wp2_with fail
  go_loopw [5] (fun r wr => ∃ k : Nat, k ≤ (4 - l.length % 4) % 4 ∧ Hid (OwnB wr w.heap.size r (l ++ List.replicate k 0)) ∧ Hid (Below w.heap.size w wr)) (fun r _ => l.length + 4 - lenV r)
  case atStart => exact ⟨0, by omega, by show OwnB _ _ _ _; simpa using h1.out, hb1⟩
  case round =>
    clear h1 hb1
    obtain ⟨k, hk, ho, hb⟩ := hrel
    have hlen : (l ++ List.replicate k (0 : UInt8)).length = l.length + k := by simp
    have hst := Lib.hid (pad_step l k)
    obtain ⟨Ar, cr, rfl, -, -⟩ := ho.out.sees.mk_
    by_cases hlt : k < (4 - l.length % 4) % 4
    · have i0 : ¬ ((((l ++ List.replicate k (0 : UInt8)).length : Nat) : Int) % 4 = 0) := by rw [hlen]; omega
      generalize l ++ List.replicate k (0 : UInt8) = acc at *
      replace hlen := Lib.hid hlen
      have hal := balloc wr (.cells #[.int .u8 0] 5)
      have ho2 := Lib.hid (ho.out.below hal)
      have hcl := Lib.hid (one_byte wr 0 0 rfl).sees
      have hb2 := Lib.hid (bgo hb.out hal)
      clear hal
      go_wp2_with (at_builtin; refine wpList_app (by rfl) _ _ rfl w.heap.size _ acc rfl ho2.out _ _ [0] rfl hcl.out (by have := hlen.out; simp; omega) hb2.out.size ?_)
      intro v' w' hW2 hb4
      have hW3 := hW2.sees.mk_
      obtain ⟨A9, c9, rfl, -, -⟩ := hW3
      have hW2 := Lib.hid hW2
      have hb4 := Lib.hid (hb2.out.trans hb4)
      go_wp2_with fail
      go_roundw
      case rel => exact ⟨k + 1, by omega, by rw [hst.out]; exact hW2.out, hb4⟩
      case measure => have := hlen.out; simp [lenV]; omega
    · have i0 : ((((l ++ List.replicate k (0 : UInt8)).length : Nat) : Int) % 4 = 0) := by rw [hlen]; omega
      have hp : Hid (pad4 l = l ++ List.replicate k 0) := by show _ = _; rw [pad4, show (4 - l.length % 4) % 4 = k by omega]
      generalize l ++ List.replicate k (0 : UInt8) = acc at *
      replace hlen := Lib.hid hlen
      go_wp2_with fail
      go_returns
      exact ⟨_, rfl, by rw [hp.out]; exact ho.out, hb.out⟩
end Go.Proofs.YtkefbjpdpcmpnaaGreat

/- What a law leans on beyond the base: contracts, plain functions, walks. Conditions: those of each theorem. -/
import Derived.Test.YtjgepckncogdaaaGreatQC1
set_option linter.unusedVariables false
set_option linter.unusedSimpArgs false
namespace Go.Proofs.YtjgepckncogdaaaGreat
open Go Go.RowKit
set_option linter.unusedVariables false
attribute [local go_sem ↓] Go.wp_at_zero Go.wp_at_succ
def xorK (z : UInt8) (b : Int) : UInt8 := UInt8.ofNat (bits .xor .u8 (z.toNat : Int) b).toNat
theorem xorK_eq (z : UInt8) (b : Int) : bits .xor .u8 (z.toNat : Int) b = ((xorK z b).toNat : Int) := by
 have h : 0 ≤ bits .xor .u8 (z.toNat : Int) b ∧ bits .xor .u8 (z.toNat : Int) b < 256 := by
  show 0 ≤ IntKind.u8.wrap _ ∧ IntKind.u8.wrap _ < 256
  rw [IntKind.wrap_u8]
  omega
 unfold xorK
 generalize bits .xor .u8 (z.toNat : Int) b = x at *
 simp
 omega
def flipK (l : Bs) (a b : Int) : Bs := l.set (a % (l.length : Int)).toNat (xorK (l.getD (a % (l.length : Int)).toNat 0) (1 + b % 255))
theorem flipK_len (l : Bs) (a b : Int) : (flipK l a b).length = l.length := by simp [flipK]
theorem kmod_nat (v m : Int) (hm : 0 < m) : ∃ k : Nat, v % m = (k : Int) ∧ (k : Int) < m := by
 have h1 := Int.emod_nonneg v (show m ≠ 0 by omega)
 have h2 := Int.emod_lt_of_pos v hm
 exact ⟨(v % m).toNat, by omega, by omega⟩
set_option maxRecDepth 100000 in
set_option maxHeartbeats 2000000 in
theorem kflip_some (B : Nat) (u : Value) (l : Bs) (a b : Int) (w : World) (hu : SeesB w B u l) (hB : B ≤ w.heap.size) (h1 : 1 ≤ l.length) (h2 : l.length ≤ 1048576) :
 Calls Tryz.prog 22 #[u, .int .i64 a, .int .i64 b] w (Gives (flipK l a b) w) := by
 obtain ⟨A, c, rfl, -, -⟩ := hu.mk_
 obtain ⟨i, hi, hi2⟩ := kmod_nat a (l.length : Int) (by omega)
 obtain ⟨q, hq, hq2⟩ := kmod_nat b 255 (by omega)
 have hi3 : i < l.length := by omega
 have hch : Hid (flipK l a b = l.set i (xorK (l.getD i 0) (1 + (q : Int)))) := by show _ = _; rw [flipK, hi, hq, Int.toNat_natCast]
 have qa := fun W => kwithin_any a (l.length : Int) (by omega) (by omega) W
 have qb := fun W => kwithin_any b 255 (by omega) (by omega) W
 rw [hi] at qa
 rw [hq] at qb
 replace qa := Lib.hid qa
 replace qb := Lib.hid qb
 have hbA := balloc w (.cells #[.slice A l.length c] 25)
 have hl3 := seesL_lit w 25 (show SeesAll w w.heap.size [.slice A l.length c] [l] from ⟨hu.more hB, trivial⟩) (by simp [maxLen])
 have hfl : [l].flatten = l := by simp
 have hj := rjoin_any _ _ _ _ hl3 (Nat.le_refl _) (by rw [hfl]; omega)
 rw [hfl] at hj
 replace hj := Lib.hid hj
 have ipos : (0 : Int) < (l.length : Int) := by omega
 have hx2 : IntKind.i64.wrap (1 + (q : Int)) = 1 + (q : Int) := by rw [IntKind.wrap_i64]; omega
 have hx : IntKind.u8.wrap (1 + (q : Int)) = 1 + (q : Int) := by rw [IntKind.wrap_u8]; omega
 replace hi := Lib.hid hi
 replace hq := Lib.hid hq
 go_enter Tryz.func22, Tryz.ntmps22
 go_wp2_with fail
 refine hj.out.mono ?_
 rintro e w1 ⟨v1, rfl, h3, hb1⟩
 rcases h3.2 with ⟨rfl, h0⟩ | ⟨g, cap, cur, rfl, hb, hh, hc, hm, hcur, htake⟩
 · exact absurd h0 (by omega)
 have hcell := h3.cellAt i (by omega)
 rw [vb_get, List.getElem?_eq_getElem hi3, Option.map_some] at hcell
 have hgd : l.getD i 0 = l[i] := by rw [List.getD_eq_getElem?_getD, List.getElem?_eq_getElem hi3]; rfl
 rw [hgd] at hch
 generalize l[i] = z at *
 have hz := xorK_eq z (1 + (q : Int))
 generalize xorK z (1 + (q : Int)) = y at *
 replace hcell : w1.cell? ⟨g, i, none⟩ = some (.int .u8 (z.toNat : Int)) := hcell
 have hf := h3.frozenAt i
 have hst := (h3.stored i (byV y)).1
 rw [vb_set] at hst
 replace hst := Lib.hid hst
 replace hgd := Lib.hid hgd
 replace h3 := Lib.hid h3
 clear hh hc hm hcur htake
 dsimp only
 go_wp2_with fail
 go_region_with
  (first
   | (go_at_call 15; have _h := mk1; refine (qb.out _).mono ?_; rintro e w5 ⟨rfl, rfl⟩)
   | (go_at_call 15; refine (qa.out _).mono ?_; rintro e w5 ⟨rfl, rfl⟩; have mk1 : True := trivial))
 all_goals
  go_wp2_with fail
  go_ret
  refine ⟨.slice (some ⟨g, 0, none⟩) l.length cap, rfl, ?_, (Below.setCell (bgo (balloc w _) hb1) (p := ⟨g, i, none⟩) (Nat.le_trans (balloc w _).size hb) _).drew⟩
  rw [hch.out]
  refine OwnB.mono (base := (w.alloc (.cells #[.slice A l.length c] 25)).heap.size) ?_ (balloc w _).size
  unfold OwnB
  rw [List.length_set]
  exact hst.out
set_option linter.unusedSimpArgs false
set_option maxRecDepth 100000 in
set_option maxHeartbeats 1000000 in
theorem kflip_none (u : Value) (a b : Int) (w : World) (hu : SeesB w w.heap.size u []) :
 Calls Tryz.prog 22 #[u, .int .i64 a, .int .i64 b] w (Gives [] w) := by
 obtain ⟨A, c, rfl, -, -⟩ := hu.mk_
 have hl3 := seesL_lit w 25 (show SeesAll w w.heap.size [.slice A (List.length ([] : Bs)) c] [[]] from ⟨hu, trivial⟩) (by simp [maxLen])
 have hj := rjoin_any _ _ _ _ hl3 (Nat.le_refl _) (by simp)
 rw [show ([[]] : List Bs).flatten = [] from rfl] at hj
 have hal := Lib.hid (balloc w (.cells #[.slice A (List.length ([] : Bs)) c] 25))
 replace hj := Lib.hid hj
 clear hu hl3
 go_enter Tryz.func22, Tryz.ntmps22
 go_wp2_with fail
 refine hj.out.mono ?_
 rintro e w1 ⟨v1, rfl, f1, hb1⟩
 obtain ⟨A1, c1, rfl, -, -⟩ := f1.sees.mk_
 dsimp only
 go_wp2_with fail
 go_ret
 exact ⟨_, rfl, f1.mono hal.out.size, bgo hal.out hb1⟩
theorem kflip_any (u : Value) (l : Bs) (a b : Int) (w : World) (hu : SeesB w w.heap.size u l) (hl : l.length ≤ 1048576) :
 Calls Tryz.prog 22 #[u, .int .i64 a, .int .i64 b] w fun e w' => ∃ l' : Bs, l'.length = l.length ∧ Gives l' w e w' := by
 cases l with
 | nil => exact (kflip_none u a b w hu).mono fun _ _ h => ⟨[], rfl, h⟩
 | cons x y => exact (kflip_some _ u (x :: y) a b w hu (Nat.le_refl _) (by simp) hl).mono fun _ _ h => ⟨_, flipK_len _ _ _, h⟩
end Go.Proofs.YtjgepckncogdaaaGreat

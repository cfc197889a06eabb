/- Contract of sectimeworld.Changed: bytes of which one is changed. Conditions: from 1 to 1048576 bytes, which are seen. -/
import Derived.Test.YtjlobdediebpcaaGreatBytes
namespace Go.Proofs.YtjlobdediebpcaaGreat
open Go.RowKit
set_option linter.unusedVariables false
attribute [local go_sem ↓] Go.wp_at_zero Go.wp_at_succ
def xorW (z : UInt8) (b : Int) : UInt8 := UInt8.ofNat (bits .xor .u8 (z.toNat : Int) b).toNat
theorem xorW_eq (z : UInt8) (b : Int) : bits .xor .u8 (z.toNat : Int) b = ((xorW z b).toNat : Int) := by
  have h : 0 ≤ bits .xor .u8 (z.toNat : Int) b ∧ bits .xor .u8 (z.toNat : Int) b < 256 := by
    show 0 ≤ IntKind.u8.wrap _ ∧ IntKind.u8.wrap _ < 256
    rw [IntKind.wrap_u8]
    omega
  unfold xorW
  generalize bits .xor .u8 (z.toNat : Int) b = x at *
  simp
  omega
def changedW (l : Bs) (a b : Int) : Bs := l.set (a % (l.length : Int)).toNat (xorW (l.getD (a % (l.length : Int)).toNat 0) (1 + b % 255))
theorem changedW_len (l : Bs) (a b : Int) : (changedW l a b).length = l.length := by simp [changedW]
theorem wmod_nat (v m : Int) (hm : 0 < m) : ∃ k : Nat, v % m = (k : Int) ∧ (k : Int) < m := by
  have h1 := Int.emod_nonneg v (show m ≠ 0 by omega)
  have h2 := Int.emod_lt_of_pos v hm
  exact ⟨(v % m).toNat, by omega, by omega⟩
set_option maxRecDepth 100000 in
set_option maxHeartbeats 2000000 in
theorem changed_any (B : Nat) (u : Value) (l : Bs) (a b : Int) (w : World) (hu : SeesB w B u l) (hB : B ≤ w.heap.size) (h1 : 1 ≤ l.length) (h2 : l.length ≤ 1048576) :
    Calls Tryz.prog 10 #[u, .int .i64 a, .int .i64 b] w (Gives (changedW l a b) w) := by
  obtain ⟨A, c, rfl, -, -⟩ := hu.mk_
  obtain ⟨i, hi, hi2⟩ := wmod_nat a (l.length : Int) (by omega)
  obtain ⟨q, hq, hq2⟩ := wmod_nat b 255 (by omega)
  have hi3 : i < l.length := by omega
  have hch : Hid (changedW l a b = l.set i (xorW (l.getD i 0) (1 + (q : Int)))) := by show _ = _; rw [changedW, hi, hq, Int.toNat_natCast]
  have qa := fun W => within_any a (l.length : Int) (by omega) (by omega) W
  have qb := fun W => within_any b 255 (by omega) (by omega) W
  rw [hi] at qa
  rw [hq] at qb
  replace qa := Lib.hid qa
  replace qb := Lib.hid qb
  have hbA := balloc w (.cells #[.slice A l.length c] 22)
  have hl3 := seesL_lit w 22 (show SeesAll w w.heap.size [.slice A l.length c] [l] from ⟨hu.more hB, trivial⟩) (by simp [maxLen])
  have hfl : [l].flatten = l := by simp
  have hj := rjoin_any _ _ _ _ hl3 (Nat.le_refl _) (by rw [hfl]; omega)
  rw [hfl] at hj
  replace hj := Lib.hid hj
  have hx2 : IntKind.i64.wrap (1 + (q : Int)) = 1 + (q : Int) := by rw [IntKind.wrap_i64]; omega
  have hx : IntKind.u8.wrap (1 + (q : Int)) = 1 + (q : Int) := by rw [IntKind.wrap_u8]; omega
  replace hi := Lib.hid hi
  replace hq := Lib.hid hq
  go_enter Tryz.func10, Tryz.ntmps10
  go_wp2_with fail
  refine hj.out.mono ?_
  rintro e w1 ⟨v1, rfl, h3, hb1⟩
  rcases h3.2 with ⟨rfl, h0⟩ | ⟨g, cap, cur, rfl, hb, hh, hc, hm, hcur, htake⟩
  · exact absurd h0 (by omega)
  have hcell := h3.cellAt i (by omega)
  rw [vb_get, List.getElem?_eq_getElem hi3, Option.map_some] at hcell
  have hgd : l.getD i 0 = l[i] := by rw [List.getD_eq_getElem?_getD, List.getElem?_eq_getElem hi3]; rfl
  rw [hgd] at hch
  generalize l[i] = z at *
  have hz := xorW_eq z (1 + (q : Int))
  generalize xorW z (1 + (q : Int)) = y at *
  replace hcell : w1.cell? ⟨g, i, none⟩ = some (.int .u8 (z.toNat : Int)) := hcell
  have hf := h3.frozenAt i
  have hst := (h3.stored i (byV y)).1
  rw [vb_set] at hst
  replace hst := Lib.hid hst
  replace hgd := Lib.hid hgd
  replace h3 := Lib.hid h3
  clear hh hc hm hcur htake
  dsimp only
  go_wp2_with fail
  go_region_with
    (first
      | (go_at_call 5; have _h := mk1; refine (qb.out _).mono ?_; rintro e w5 ⟨rfl, rfl⟩)
      | (go_at_call 5; refine (qa.out _).mono ?_; rintro e w5 ⟨rfl, rfl⟩; have mk1 : True := trivial))
  all_goals
    go_wp2_with fail
    go_ret
    refine ⟨.slice (some ⟨g, 0, none⟩) l.length cap, rfl, ?_, (Below.setCell (bgo (balloc w _) hb1) (p := ⟨g, i, none⟩) (Nat.le_trans (balloc w _).size hb) _).drew⟩
    rw [hch.out]
    refine OwnB.mono (base := (w.alloc (.cells #[.slice A l.length c] 22)).heap.size) ?_ (balloc w _).size
    unfold OwnB
    rw [List.length_set]
    exact hst.out
end Go.Proofs.YtjlobdediebpcaaGreat

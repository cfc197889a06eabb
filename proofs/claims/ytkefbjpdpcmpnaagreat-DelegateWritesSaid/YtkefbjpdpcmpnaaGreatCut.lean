/- Contracts of tagged.length, Padded, Cut and of sectimeref29.Size, Unpad: a signature out of what is padded. Conditions: at most 4096 bytes, which are seen. -/
import Derived.Test.YtkefbjpdpcmpnaaGreatPad
namespace Go.Proofs.YtkefbjpdpcmpnaaGreat
open Go.RowKit
set_option linter.unusedVariables false
attribute [local go_sem ↓] Go.wp_at_zero Go.wp_at_succ
def headN (b : Bs) : Nat := (b.getD 0 0).toNat
def sizeN (b : Bs) : Nat := 565 + 32 * headN b
def unpadG (b : Bs) : Option Bs :=
  if b.length = 0 ∨ 6 < headN b ∨ b.length < sizeN b then none else if pad4 (b.take (sizeN b)) = b then some (b.take (sizeN b)) else none
def UnpadP (x : Option Bs) (w : World) (e : Ending) (w' : World) : Prop :=
  match x with
  | none => ∃ A n c, e = .returned (.tuple #[.slice A n c, .bool false]) ∧ Below w.heap.size w w'
  | some s => ∃ v, e = .returned (.tuple #[v, .bool true]) ∧ SeesB w' w'.heap.size v s ∧ Below w.heap.size w w'
theorem unpad_no (b : Bs) (h : b.length = 0 ∨ 6 < headN b ∨ b.length < sizeN b) : unpadG b = none := by unfold unpadG; rw [if_pos h]
theorem tlength_any (h : Nat) (w : World) (hh : h ≤ 255) : Calls Tryz.prog 154 #[.int .i64 (h : Int)] w fun e w' => e = .returned (.int .i64 ((565 + 32 * h : Nat) : Int)) ∧ w' = w := by
  go_enter Tryz.func154, Tryz.ntmps154
  go_wp2_with fail
  go_ret
  exact ⟨ret_int (by omega), rfl⟩
theorem rsize_any (h : Nat) (w : World) (hh : h ≤ 255) : Calls Tryz.prog 97 #[.int .i64 (h : Int)] w fun e w' => e = .returned (.int .i64 ((565 + 32 * h : Nat) : Int)) ∧ w' = w := by
  go_enter Tryz.func97, Tryz.ntmps97
  go_wp2_with fail
  go_ret
  exact ⟨ret_int (by omega), rfl⟩
theorem padded_any (B : Nat) (u : Value) (l : Bs) (w : World) (hu : SeesB w B u l) (hB : B ≤ w.heap.size) (hl : l.length ≤ 1048576) :
    Calls Tryz.prog 88 #[u] w (Gives (pad4 l) w) := by
  have hp := Lib.hid (pad_any B u l w hu hB hl)
  go_enter Tryz.func88, Tryz.ntmps88
  go_wp2_with fail
  refine hp.out.mono ?_
  rintro e w1 ⟨v1, rfl, h1, hb1⟩
  dsimp only
  go_wp2_with fail
  go_ret
  exact ⟨v1, rfl, h1, hb1⟩
set_option maxRecDepth 100000 in
theorem cut_any (B : Nat) (u : Value) (b : Bs) (w : World) (hu : SeesB w B u b) (hB : B ≤ w.heap.size) (hl : b.length ≤ 4096) :
    Calls Tryz.prog 92 #[u] w (UnpadP (unpadG b) w) := by
  obtain ⟨A, c, rfl, hc1, hc2⟩ := hu.mk_
  by_cases g0 : b.length = 0
  · rw [unpad_no b (.inl g0)]
    have i0 : (b.length : Int) = 0 := by omega
    go_enter Tryz.func92, Tryz.ntmps92
    go_wp2_with fail
    go_returns
    exact ⟨_, _, _, rfl, Below.refl _ _⟩
  have hh : headN b ≤ 255 := by have := (b.getD 0 0).toNat_lt; unfold headN; omega
  obtain ⟨g, o, rfl, hgB, hcell⟩ := hu.at_ (by omega)
  have x0 : w.cell? ⟨g, o, none⟩ = some (.int .u8 (headN b : Int)) := hcell 0 (by omega)
  have i0 : ¬ (b.length : Int) = 0 := by omega
  have i9 : (0 : Int) < (b.length : Int) := by omega
  by_cases g1 : 6 < headN b
  · rw [unpad_no b (.inr (.inl g1))]
    have i1 : (6 : Int) < (headN b : Int) := by omega
    generalize headN b = h at *
    go_enter Tryz.func92, Tryz.ntmps92
    go_wp2_with fail
    go_returns
    exact ⟨_, _, _, rfl, Below.refl _ _⟩
  have i1 : ¬ (6 : Int) < (headN b : Int) := by omega
  have iw : IntKind.i64.wrap (headN b : Int) = (headN b : Int) := by rw [IntKind.wrap_i64]; omega
  have hlen := fun W => tlength_any (headN b) W hh
  have hsn : 565 + 32 * headN b = sizeN b := rfl
  rw [hsn] at hlen
  by_cases g2 : b.length < sizeN b
  · rw [unpad_no b (.inr (.inr g2))]
    have i2 : (b.length : Int) < (sizeN b : Int) := by omega
    generalize headN b = h at *
    generalize sizeN b = z at *
    replace hlen := Lib.hid hlen
    go_enter Tryz.func92, Tryz.ntmps92
    go_wp2_with fail
    refine (hlen.out _).mono ?_
    rintro e w0 ⟨rfl, rfl⟩
    dsimp only
    go_wp2_with fail
    go_returns
    exact ⟨_, _, _, rfl, Below.refl _ _⟩
  have i2 : ¬ (b.length : Int) < (sizeN b : Int) := by omega
  have hug : unpadG b = if pad4 (b.take (sizeN b)) = b then some (b.take (sizeN b)) else none := by unfold unpadG; rw [if_neg (by omega)]
  have hs := hu.take (m := sizeN b) (c' := c) (by omega) (by omega) hc2
  have hl2 : (b.take (sizeN b)).length = sizeN b := by rw [List.length_take]; omega
  have i3 : (sizeN b : Int) ≤ (c : Int) := by omega
  have hcl := Lib.hid (fun W (hW : Below w.heap.size w W) => bclone_any B _ (b.take (sizeN b)) W (hs.below (hW.mono hB)) (Nat.le_trans hB hW.size) (by omega))
  have hpd := Lib.hid (fun W (hW : Below w.heap.size w W) => padded_any B _ (b.take (sizeN b)) W (hs.below (hW.mono hB)) (Nat.le_trans hB hW.size) (by omega))
  have heq := Lib.hid (fun W v (hW : Below w.heap.size w W) (hv : SeesB W W.heap.size v (pad4 (b.take (sizeN b)))) => equal_any _ _ v _ (pad4 (b.take (sizeN b))) b W hv (hu.below (hW.mono hB)))
  clear hs hu
  generalize b.take (sizeN b) = s at *
  generalize headN b = h at *
  generalize sizeN b = z at *
  have iz : (0 : Int) ≤ (z : Int) := by omega
  replace hlen := Lib.hid hlen
  replace hl2 := Lib.hid hl2
  replace hug := Lib.hid hug
  go_enter Tryz.func92, Tryz.ntmps92
  go_wp2_with fail
  refine (hlen.out _).mono ?_
  rintro e w0 ⟨rfl, hw0⟩
  obtain rfl := hw0.symm
  dsimp only
  go_wp2_with fail
  refine (hlen.out _).mono ?_
  rintro e w0 ⟨rfl, hw0⟩
  obtain rfl := hw0.symm
  dsimp only
  go_wp2_with fail
  refine (hcl.out _ (Below.refl _ _)).mono ?_
  rintro e w1 ⟨v1, rfl, h1, hb1⟩
  obtain ⟨A1, c1, rfl, -, -⟩ := h1.sees.mk_
  dsimp only
  go_wp2_with fail
  refine (hpd.out _ hb1).mono ?_
  rintro e w2 ⟨v2, rfl, h2, hb2⟩
  have hb3 := bgo hb1 hb2
  have hq := Lib.hid (heq.out w2 v2 hb3 h2.sees)
  have h3 := (h1.below hb2).sees
  replace h1 := Lib.hid h1
  replace h2 := Lib.hid h2
  dsimp only
  go_wp2_with fail
  refine hq.out.mono ?_
  rintro e w0 ⟨rfl, hw0⟩
  obtain rfl := hw0.symm
  dsimp only
  by_cases g3 : pad4 s = b
  · have hu9 : Hid (unpadG b = some s) := by show _ = _; rw [hug.out, if_pos g3]
    have hq9 : (pad4 s == b) = true := by simp [g3]
    generalize (pad4 s == b) = Q at *
    subst hq9
    replace g3 := Lib.hid g3
    go_wp2_with fail
    go_returns
    show UnpadP _ _ _ _
    rw [hu9.out]
    exact ⟨_, rfl, h3, hb3⟩
  · have hu9 : Hid (unpadG b = none) := by show _ = _; rw [hug.out, if_neg g3]
    have hq9 : (pad4 s == b) = false := by simp [g3]
    generalize (pad4 s == b) = Q at *
    subst hq9
    replace g3 := Lib.hid g3
    go_wp2_with fail
    go_returns
    show UnpadP _ _ _ _
    rw [hu9.out]
    exact ⟨_, _, _, rfl, hb3⟩
set_option maxRecDepth 100000 in
theorem unpad_any (B : Nat) (u : Value) (b : Bs) (w : World) (hu : SeesB w B u b) (hB : B ≤ w.heap.size) (hl : b.length ≤ 4096) :
    Calls Tryz.prog 74 #[u] w (UnpadP (unpadG b) w) := by
  obtain ⟨A, c, rfl, hc1, hc2⟩ := hu.mk_
  by_cases g0 : b.length = 0
  · rw [unpad_no b (.inl g0)]
    have i0 : (b.length : Int) = 0 := by omega
    go_enter Tryz.func74, Tryz.ntmps74
    go_wp2_with fail
    go_returns
    exact ⟨_, _, _, rfl, Below.refl _ _⟩
  have hh : headN b ≤ 255 := by have := (b.getD 0 0).toNat_lt; unfold headN; omega
  obtain ⟨g, o, rfl, hgB, hcell⟩ := hu.at_ (by omega)
  have x0 : w.cell? ⟨g, o, none⟩ = some (.int .u8 (headN b : Int)) := hcell 0 (by omega)
  have i0 : ¬ (b.length : Int) = 0 := by omega
  have i9 : (0 : Int) < (b.length : Int) := by omega
  by_cases g1 : 6 < headN b
  · rw [unpad_no b (.inr (.inl g1))]
    have i1 : (6 : Int) < (headN b : Int) := by omega
    generalize headN b = h at *
    go_enter Tryz.func74, Tryz.ntmps74
    go_wp2_with fail
    go_returns
    exact ⟨_, _, _, rfl, Below.refl _ _⟩
  have i1 : ¬ (6 : Int) < (headN b : Int) := by omega
  have iw : IntKind.i64.wrap (headN b : Int) = (headN b : Int) := by rw [IntKind.wrap_i64]; omega
  have hlen := fun W => rsize_any (headN b) W hh
  have hsn : 565 + 32 * headN b = sizeN b := rfl
  rw [hsn] at hlen
  by_cases g2 : b.length < sizeN b
  · rw [unpad_no b (.inr (.inr g2))]
    have i2 : (b.length : Int) < (sizeN b : Int) := by omega
    generalize headN b = h at *
    generalize sizeN b = z at *
    replace hlen := Lib.hid hlen
    go_enter Tryz.func74, Tryz.ntmps74
    go_wp2_with fail
    refine (hlen.out _).mono ?_
    rintro e w0 ⟨rfl, rfl⟩
    dsimp only
    go_wp2_with fail
    go_returns
    exact ⟨_, _, _, rfl, Below.refl _ _⟩
  have i2 : ¬ (b.length : Int) < (sizeN b : Int) := by omega
  have hug : unpadG b = if pad4 (b.take (sizeN b)) = b then some (b.take (sizeN b)) else none := by unfold unpadG; rw [if_neg (by omega)]
  have hs := hu.take (m := sizeN b) (c' := c) (by omega) (by omega) hc2
  have hl2 : (b.take (sizeN b)).length = sizeN b := by rw [List.length_take]; omega
  have i3 : (sizeN b : Int) ≤ (c : Int) := by omega
  have hl3 := fun W0 (hW0 : Below w.heap.size w W0) => seesL_lit W0 23 (show SeesAll W0 W0.heap.size [.slice (some ⟨g, o, none⟩) (sizeN b) c] [b.take (sizeN b)] from ⟨(hs.below (hW0.mono hB)).more (Nat.le_trans hB hW0.size), trivial⟩) (by simp [maxLen])
  have hfl : [b.take (sizeN b)].flatten = b.take (sizeN b) := by simp
  have hcl := Lib.hid (fun W0 (hW0 : Below w.heap.size w W0) => by
    have h9 := rjoin_any _ _ _ _ (hl3 W0 hW0) (Nat.le_refl _) (by rw [hfl]; omega)
    rw [hfl] at h9
    exact h9)
  have hpd := Lib.hid (fun W (hW : Below w.heap.size w W) => rpad_any B _ (b.take (sizeN b)) W (hs.below (hW.mono hB)) (Nat.le_trans hB hW.size) (by omega))
  have heq := Lib.hid (fun W v (hW : Below w.heap.size w W) (hv : SeesB W W.heap.size v (pad4 (b.take (sizeN b)))) => rsame_any _ _ v _ (pad4 (b.take (sizeN b))) b W hv (hu.below (hW.mono hB)))
  clear hs hu hl3 hfl
  generalize b.take (sizeN b) = s at *
  generalize headN b = h at *
  generalize sizeN b = z at *
  have iz : (0 : Int) ≤ (z : Int) := by omega
  replace hlen := Lib.hid hlen
  replace hl2 := Lib.hid hl2
  replace hug := Lib.hid hug
  go_enter Tryz.func74, Tryz.ntmps74
  go_wp2_with fail
  refine (hlen.out _).mono ?_
  rintro e w0 ⟨rfl, hw0⟩
  obtain rfl := hw0.symm
  dsimp only
  go_wp2_with fail
  refine (hpd.out _ (Below.refl _ _)).mono ?_
  rintro e w2 ⟨v2, rfl, h2, hb3⟩
  have hq := Lib.hid (heq.out w2 v2 hb3 h2.sees)
  replace h2 := Lib.hid h2
  dsimp only
  go_wp2_with fail
  refine hq.out.mono ?_
  rintro e w0 ⟨rfl, hw0⟩
  obtain rfl := hw0.symm
  dsimp only
  by_cases g3 : pad4 s = b
  · have hu9 : Hid (unpadG b = some s) := by show _ = _; rw [hug.out, if_pos g3]
    have hq9 : (pad4 s == b) = true := by simp [g3]
    generalize (pad4 s == b) = Q at *
    subst hq9
    replace g3 := Lib.hid g3
    go_wp2_with fail
    refine (hcl.out _ hb3).mono ?_
    rintro e w3 ⟨v3, rfl, h3, hb4⟩
    dsimp only
    go_wp2_with fail
    go_returns
    show UnpadP _ _ _ _
    rw [hu9.out]
    exact ⟨_, rfl, h3.sees, bgo (bgo hb3 (balloc _ _)) hb4⟩
  · have hu9 : Hid (unpadG b = none) := by show _ = _; rw [hug.out, if_neg g3]
    have hq9 : (pad4 s == b) = false := by simp [g3]
    generalize (pad4 s == b) = Q at *
    subst hq9
    replace g3 := Lib.hid g3
    go_wp2_with fail
    go_returns
    show UnpadP _ _ _ _
    rw [hu9.out]
    exact ⟨_, _, _, rfl, hb3⟩
end Go.Proofs.YtkefbjpdpcmpnaaGreat

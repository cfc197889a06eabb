/- Contract of tagged.Cut once more: what it returns where it fails, too. Conditions: at most 4096 bytes, which are seen. -/
import Derived.Test.YtkefbjpdpcmpnaaGreatDecL
import Derived.Test.YtkefbjpdpcmpnaaGreatCut
namespace Go.Proofs.YtkefbjpdpcmpnaaGreat
open Go.RowKit
set_option linter.unusedVariables false
attribute [local go_sem ↓] Go.wp_at_zero Go.wp_at_succ
def CutP (b : Bs) (w : World) (e : Ending) (w' : World) : Prop :=
  ∃ A n c s, e = .returned (.tuple #[.slice A n c, .bool (unpadG b).isSome]) ∧ SeesB w' w'.heap.size (.slice A n c) s ∧ s.length ≤ 4096 ∧ (∀ x, unpadG b = some x → s = x) ∧ Below w.heap.size w w'
theorem cutp_nil {b : Bs} (h : unpadG b = none) {w w' : World} {e : Ending} (he : e = .returned (.tuple #[.slice none 0 0, .bool false])) (hb : Below w.heap.size w w') : CutP b w e w' :=
  ⟨none, 0, 0, [], by rw [h]; exact he, SeesB.nil _ _, by simp, fun x hx => (by rw [h] at hx; cases hx), hb⟩
theorem cutp_no {b s : Bs} {A : Option Addr} {n c : Nat} (h : unpadG b = none) {w w' : World} {e : Ending} (he : e = .returned (.tuple #[.slice A n c, .bool false])) (hs : SeesB w' w'.heap.size (.slice A n c) s) (hl : s.length ≤ 4096) (hb : Below w.heap.size w w') : CutP b w e w' :=
  ⟨A, n, c, s, by rw [h]; exact he, hs, hl, fun x hx => (by rw [h] at hx; cases hx), hb⟩
theorem cutp_ok {b s : Bs} {A : Option Addr} {n c : Nat} (h : unpadG b = some s) {w w' : World} {e : Ending} (he : e = .returned (.tuple #[.slice A n c, .bool true])) (hs : SeesB w' w'.heap.size (.slice A n c) s) (hb : Below w.heap.size w w') : CutP b w e w' :=
  ⟨A, n, c, s, by rw [h]; exact he, hs, by have := (unpad_spec h).1; have := head_le s this; omega, fun x hx => (by rw [h] at hx; cases hx; rfl), hb⟩
set_option maxRecDepth 100000 in
theorem cut2_any (B : Nat) (u : Value) (b : Bs) (w : World) (hu : SeesB w B u b) (hB : B ≤ w.heap.size) (hl : b.length ≤ 4096) :
    Calls Tryz.prog 92 #[u] w (CutP b w) := by
  obtain ⟨A, c, rfl, hc1, hc2⟩ := hu.mk_
  by_cases g0 : b.length = 0
  · have hno := Lib.hid (unpad_no b (.inl g0))
    have i0 : (b.length : Int) = 0 := by omega
    go_enter Tryz.func92, Tryz.ntmps92
    go_wp2_with fail
    go_returns
    exact cutp_nil hno.out rfl (Below.refl _ _)
  have hh : headN b ≤ 255 := by have := (b.getD 0 0).toNat_lt; unfold headN; omega
  obtain ⟨g, o, rfl, hgB, hcell⟩ := hu.at_ (by omega)
  have x0 : w.cell? ⟨g, o, none⟩ = some (.int .u8 (headN b : Int)) := hcell 0 (by omega)
  have i0 : ¬ (b.length : Int) = 0 := by omega
  have i9 : (0 : Int) < (b.length : Int) := by omega
  by_cases g1 : 6 < headN b
  · have hno := Lib.hid (unpad_no b (.inr (.inl g1)))
    have i1 : (6 : Int) < (headN b : Int) := by omega
    generalize headN b = h at *
    go_enter Tryz.func92, Tryz.ntmps92
    go_wp2_with fail
    go_returns
    exact cutp_nil hno.out rfl (Below.refl _ _)
  have i1 : ¬ (6 : Int) < (headN b : Int) := by omega
  have iw : IntKind.i64.wrap (headN b : Int) = (headN b : Int) := by rw [IntKind.wrap_i64]; omega
  have hlen := fun W => tlength_any (headN b) W hh
  have hsn : 565 + 32 * headN b = sizeN b := rfl
  rw [hsn] at hlen
  by_cases g2 : b.length < sizeN b
  · have hno := Lib.hid (unpad_no b (.inr (.inr g2)))
    have i2 : (b.length : Int) < (sizeN b : Int) := by omega
    generalize headN b = h at *
    generalize sizeN b = z at *
    replace hlen := Lib.hid hlen
    go_enter Tryz.func92, Tryz.ntmps92
    go_wp2_with fail
    refine (hlen.out _).mono ?_
    rintro e w0 ⟨rfl, rfl⟩
    dsimp only
    go_wp2_with fail
    go_returns
    exact cutp_nil hno.out rfl (Below.refl _ _)
  have i2 : ¬ (b.length : Int) < (sizeN b : Int) := by omega
  have hug : unpadG b = if pad4 (b.take (sizeN b)) = b then some (b.take (sizeN b)) else none := by unfold unpadG; rw [if_neg (by omega)]
  have hs := hu.take (m := sizeN b) (c' := c) (by omega) (by omega) hc2
  have hl2 : (b.take (sizeN b)).length = sizeN b := by rw [List.length_take]; omega
  have i3 : (sizeN b : Int) ≤ (c : Int) := by omega
  have hcl := Lib.hid (fun W (hW : Below w.heap.size w W) => bclone_any B _ (b.take (sizeN b)) W (hs.below (hW.mono hB)) (Nat.le_trans hB hW.size) (by omega))
  have hpd := Lib.hid (fun W (hW : Below w.heap.size w W) => padded_any B _ (b.take (sizeN b)) W (hs.below (hW.mono hB)) (Nat.le_trans hB hW.size) (by omega))
  have heq := Lib.hid (fun W v (hW : Below w.heap.size w W) (hv : SeesB W W.heap.size v (pad4 (b.take (sizeN b)))) => equal_any _ _ v _ (pad4 (b.take (sizeN b))) b W hv (hu.below (hW.mono hB)))
  clear hs hu
  generalize b.take (sizeN b) = s at *
  generalize headN b = h at *
  generalize sizeN b = z at *
  have iz : (0 : Int) ≤ (z : Int) := by omega
  replace hlen := Lib.hid hlen
  replace hl2 := Lib.hid hl2
  replace hug := Lib.hid hug
  go_enter Tryz.func92, Tryz.ntmps92
  go_wp2_with fail
  refine (hlen.out _).mono ?_
  rintro e w0 ⟨rfl, hw0⟩
  obtain rfl := hw0.symm
  dsimp only
  go_wp2_with fail
  refine (hlen.out _).mono ?_
  rintro e w0 ⟨rfl, hw0⟩
  obtain rfl := hw0.symm
  dsimp only
  go_wp2_with fail
  refine (hcl.out _ (Below.refl _ _)).mono ?_
  rintro e w1 ⟨v1, rfl, h1, hb1⟩
  obtain ⟨A1, c1, rfl, -, -⟩ := h1.sees.mk_
  dsimp only
  go_wp2_with fail
  refine (hpd.out _ hb1).mono ?_
  rintro e w2 ⟨v2, rfl, h2, hb2⟩
  have hb3 := bgo hb1 hb2
  have hq := Lib.hid (heq.out w2 v2 hb3 h2.sees)
  have h3 := (h1.below hb2).sees
  replace h1 := Lib.hid h1
  replace h2 := Lib.hid h2
  dsimp only
  go_wp2_with fail
  refine hq.out.mono ?_
  rintro e w0 ⟨rfl, hw0⟩
  obtain rfl := hw0.symm
  dsimp only
  by_cases g3 : pad4 s = b
  · have hu9 : Hid (unpadG b = some s) := by show _ = _; rw [hug.out, if_pos g3]
    have hq9 : (pad4 s == b) = true := by simp [g3]
    generalize (pad4 s == b) = Q at *
    subst hq9
    replace g3 := Lib.hid g3
    go_wp2_with fail
    go_returns
    exact cutp_ok hu9.out rfl h3 hb3
  · have hu9 : Hid (unpadG b = none) := by show _ = _; rw [hug.out, if_neg g3]
    have hq9 : (pad4 s == b) = false := by simp [g3]
    generalize (pad4 s == b) = Q at *
    subst hq9
    replace g3 := Lib.hid g3
    go_wp2_with fail
    go_returns
    exact cutp_no hu9.out rfl h3 (by have := hl2.out; omega) hb3
end Go.Proofs.YtkefbjpdpcmpnaaGreat

/- The walk of the statement SignerPublic: true. No conditions. The walk of the statement SignerVerifies: true. No conditions. -/
import Derived.Test.YtjlobdediebpcaaTower12
namespace Go.Proofs.Ytjlobdediebpcaa
open Go.RowKit
set_option linter.unusedVariables false
attribute [local go_sem ↓] Go.wp_at_zero Go.wp_at_succ
set_option maxRecDepth 100000 in
theorem spublic_law (B : Nat) (v : Value) (l : Bs) (w : World) (hu : SeesB w B v l) (hB : B ≤ w.heap.size) (h : Int) (wf : (Lit.int .i64 h).wf = true) :
    Calls Try.prog 4 #[v, .int .i64 h] w fun e w' => e = .returned (.bool true) ∧ Below w.heap.size w w' := by
  have hc1 := fun W (hW : Below w.heap.size w W) => public_any W.heap.size v l h W ((hu.below (hW.mono hB)).more (Nat.le_trans hB hW.size)) (Nat.le_refl _)
  have hc2 := fun W (hW : Below w.heap.size w W) => rpublic_any W.heap.size v l h W ((hu.below (hW.mono hB)).more (Nat.le_trans hB hW.size)) (Nat.le_refl _)
  obtain ⟨A, c, rfl, -, -⟩ := hu.mk_
  replace hc1 := Lib.hid hc1
  replace hc2 := Lib.hid hc2
  clear hu
  by_cases hl : l.length ≤ 60
  · have i0 : ¬ ((60 : Int) < (l.length : Int)) := by omega
    by_cases hh : 2 < h ∧ h ≤ 6
    · obtain ⟨i1, i2⟩ := hh
      go_enter Try.func4, Try.ntmps4
      go_wp2_with fail
      refine (sknown_any _).mono ?_
      rintro e w1 ⟨rfl, hb1⟩
      dsimp only
      go_wp2_with fail
      go_ret
      exact ⟨rfl, hb1⟩
    · by_cases h2 : 2 < h
      · have i2 : decide (h ≤ 6) = false := by rw [decide_eq_false_iff_not]; omega
        clear hh
        go_enter Try.func4, Try.ntmps4
        go_wp2_with fail
        refine (hc1.out w (Below.refl _ _)).mono ?_
        rintro e w1 ⟨v1, rfl, h1, hb1⟩
        obtain ⟨A1, c1, rfl, -, -⟩ := h1.mk_
        replace hb1 := Lib.hid hb1
        generalize hP : pubG l h = P at *
        generalize hC : pubC l h = C at *
        dsimp only
        go_wp2_with fail
        refine (hc2.out w1 hb1.out).mono ?_
        rintro e w2 ⟨v2, rfl, h2, hb2⟩
        obtain ⟨A2, c2, rfl, -, -⟩ := h2.mk_
        replace h1 := (h1.below hb2).more hb2.size
        replace hb2 := Lib.hid (bgo hb1.out hb2)
        rw [hP] at h2 ⊢
        rw [hC]
        clear hC hP hb1
        dsimp only
        go_wp2_with fail
        refine (sknown_any _).mono ?_
        rintro e w3 ⟨rfl, hb3⟩
        have hs := rsame_any _ _ _ _ P P w3 (h1.below hb3) (h2.below hb3)
        rw [beq_self_eq_true] at hs
        replace hs := Lib.hid hs
        clear h1 h2
        dsimp only
        go_wp2_with fail
        refine hs.out.mono ?_
        rintro e w4 ⟨rfl, rfl⟩
        dsimp only
        go_wp2_with fail
        go_ret
        exact ⟨rfl, bgo hb2.out hb3⟩
      · have i2 : ¬ ((2 : Int) < h) := h2
        clear hh h2
        go_enter Try.func4, Try.ntmps4
        go_wp2_with fail
        refine (hc1.out w (Below.refl _ _)).mono ?_
        rintro e w1 ⟨v1, rfl, h1, hb1⟩
        obtain ⟨A1, c1, rfl, -, -⟩ := h1.mk_
        replace hb1 := Lib.hid hb1
        generalize hP : pubG l h = P at *
        generalize hC : pubC l h = C at *
        dsimp only
        go_wp2_with fail
        refine (hc2.out w1 hb1.out).mono ?_
        rintro e w2 ⟨v2, rfl, h2, hb2⟩
        obtain ⟨A2, c2, rfl, -, -⟩ := h2.mk_
        replace h1 := (h1.below hb2).more hb2.size
        replace hb2 := Lib.hid (bgo hb1.out hb2)
        rw [hP] at h2 ⊢
        rw [hC]
        clear hC hP hb1
        dsimp only
        go_wp2_with fail
        refine (sknown_any _).mono ?_
        rintro e w3 ⟨rfl, hb3⟩
        have hs := rsame_any _ _ _ _ P P w3 (h1.below hb3) (h2.below hb3)
        rw [beq_self_eq_true] at hs
        replace hs := Lib.hid hs
        clear h1 h2
        dsimp only
        go_wp2_with fail
        refine hs.out.mono ?_
        rintro e w4 ⟨rfl, rfl⟩
        dsimp only
        go_wp2_with fail
        go_ret
        exact ⟨rfl, bgo hb2.out hb3⟩
  · have i0 : (60 : Int) < (l.length : Int) := by omega
    go_enter Try.func4, Try.ntmps4
    go_wp2_with fail
    refine (sknown_any _).mono ?_
    rintro e w1 ⟨rfl, hb1⟩
    dsimp only
    go_wp2_with fail
    go_ret
    exact ⟨rfl, hb1⟩
end Go.Proofs.Ytjlobdediebpcaa
namespace Go.Proofs.Ytjlobdediebpcaa
open Go.RowKit
set_option linter.unusedVariables false
attribute [local go_sem ↓] Go.wp_at_zero Go.wp_at_succ
set_option maxRecDepth 100000 in
theorem sverifies_law (B : Nat) (v : Value) (l : Bs) (w : World) (hu : SeesB w B v l) (hB : B ≤ w.heap.size)
    (B2 : Nat) (v2 : Value) (l2 : Bs) (hu2 : SeesB w B2 v2 l2) (hB2 : B2 ≤ w.heap.size) (B3 : Nat) (v3 : Value) (l3 : Bs) (hu3 : SeesB w B3 v3 l3) (hB3 : B3 ≤ w.heap.size) :
    Calls Try.prog 6 #[v, v2, v3] w fun e w' => e = .returned (.bool true) ∧ Below w.heap.size w w' := by
  have m1 := fun W (hW : Below w.heap.size w W) => (hu.below (hW.mono hB)).more (Nat.le_trans hB hW.size)
  have m2 := fun W (hW : Below w.heap.size w W) => (hu2.below (hW.mono hB2)).more (Nat.le_trans hB2 hW.size)
  have m3 := fun W (hW : Below w.heap.size w W) => (hu3.below (hW.mono hB3)).more (Nat.le_trans hB3 hW.size)
  obtain ⟨A, c, rfl, -, -⟩ := hu.mk_
  obtain ⟨A2, c2, rfl, -, -⟩ := hu2.mk_
  obtain ⟨A3, c3, rfl, -, -⟩ := hu3.mk_
  clear hu hu2 hu3
  by_cases hl : l.length ≤ 60 ∧ l2.length ≤ 100 ∧ l3.length ≤ 900
  · obtain ⟨j1, j2, j3⟩ := hl
    have i1 : ¬ ((60 : Int) < (l.length : Int)) := by omega
    have i2 : ¬ ((100 : Int) < (l2.length : Int)) := by omega
    have i3 : ¬ ((900 : Int) < (l3.length : Int)) := by omega
    have k1 := Lib.hid (fun W (hW : Below w.heap.size w W) => verify_any W.heap.size _ _ _ l l2 l3 W (m1 W hW) (m2 W hW) (m3 W hW) (Nat.le_refl _) (by omega) (by omega))
    have k2 := Lib.hid (fun W (hW : Below w.heap.size w W) => rverify_any W.heap.size _ _ _ l l2 l3 W (m1 W hW) (m2 W hW) (m3 W hW) (Nat.le_refl _) (by omega) (by omega))
    have k3 := Lib.hid (fun W (hW : Below w.heap.size w W) => index_any W.heap.size _ l3 W (m3 W hW) (Nat.le_refl _) (by omega))
    have k4 := Lib.hid (fun W (hW : Below w.heap.size w W) => rindex_any W.heap.size _ l3 W (m3 W hW) (Nat.le_refl _) (by omega))
    clear m1 m2 m3 j1 j2 j3
    generalize verifyG l l2 l3 = V at *
    go_enter Try.func6, Try.ntmps6
    go_wp2_with fail
    refine (k3.out w (Below.refl _ _)).mono ?_
    rintro e w1 ⟨rfl, hb1⟩
    dsimp only
    go_wp2_with fail
    refine (k4.out w1 hb1).mono ?_
    rintro e w2 ⟨rfl, hb2⟩
    replace hb2 := bgo hb1 hb2
    dsimp only
    go_wp2_with fail
    refine (sknown_any _).mono ?_
    rintro e w3 ⟨rfl, hb3⟩
    replace hb3 := bgo hb2 hb3
    dsimp only
    go_wp2_with fail
    refine (k1.out w3 hb3).mono ?_
    rintro e w4 ⟨rfl, hb4⟩
    replace hb4 := bgo hb3 hb4
    dsimp only
    go_wp2_with fail
    refine (k2.out w4 hb4).mono ?_
    rintro e w5 ⟨rfl, hb5⟩
    replace hb5 := bgo hb4 hb5
    dsimp only
    go_wp2_with fail
    go_ret
    exact ⟨ret_bool (by simp), hb5⟩
  · clear m1 m2 m3
    by_cases j1 : l.length ≤ 60
    · by_cases j2 : l2.length ≤ 100
      · have i1 : ¬ ((60 : Int) < (l.length : Int)) := by omega
        have i2 : ¬ ((100 : Int) < (l2.length : Int)) := by omega
        have i3 : (900 : Int) < (l3.length : Int) := by omega
        clear hl
        go_enter Try.func6, Try.ntmps6
        go_wp2_with fail
        refine (sknown_any _).mono ?_
        rintro e w1 ⟨rfl, hb1⟩
        dsimp only
        go_wp2_with fail
        go_ret
        exact ⟨rfl, hb1⟩
      · have i1 : ¬ ((60 : Int) < (l.length : Int)) := by omega
        have i2 : (100 : Int) < (l2.length : Int) := by omega
        clear hl
        go_enter Try.func6, Try.ntmps6
        go_wp2_with fail
        refine (sknown_any _).mono ?_
        rintro e w1 ⟨rfl, hb1⟩
        dsimp only
        go_wp2_with fail
        go_ret
        exact ⟨rfl, hb1⟩
    · have i1 : (60 : Int) < (l.length : Int) := by omega
      clear hl
      go_enter Try.func6, Try.ntmps6
      go_wp2_with fail
      refine (sknown_any _).mono ?_
      rintro e w1 ⟨rfl, hb1⟩
      dsimp only
      go_wp2_with fail
      go_ret
      exact ⟨rfl, hb1⟩
end Go.Proofs.Ytjlobdediebpcaa

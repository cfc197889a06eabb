/- The walk of the statement BatchVerifiesAnything: true. No conditions. -/
import Derived.Test.YtdfnandhdgbgeaaRBVerify
namespace Go.Proofs.Ytdfnandhdgbgeaa
open Go.RowKit
set_option linter.unusedVariables false
attribute [local go_sem ↓] Go.wp_at_zero Go.wp_at_succ
set_option maxRecDepth 100000 in
theorem bvany_law (B : Nat) (v : Value) (l : Bs) (w : World) (hu : SeesB w B v l) (hB : B ≤ w.heap.size)
    (B2 : Nat) (v2 : Value) (l2 : Bs) (hu2 : SeesB w B2 v2 l2) (hB2 : B2 ≤ w.heap.size) (B3 : Nat) (v3 : Value) (l3 : Bs) (hu3 : SeesB w B3 v3 l3) (hB3 : B3 ≤ w.heap.size) :
    Calls Try.prog 3 #[v, v2, v3] w fun e w' => e = .returned (.bool true) ∧ Below w.heap.size w w' := by
  have m1 := fun W (hW : Below w.heap.size w W) => (hu.below (hW.mono hB)).more (Nat.le_trans hB hW.size)
  have m2 := fun W (hW : Below w.heap.size w W) => (hu2.below (hW.mono hB2)).more (Nat.le_trans hB2 hW.size)
  have m3 := fun W (hW : Below w.heap.size w W) => (hu3.below (hW.mono hB3)).more (Nat.le_trans hB3 hW.size)
  obtain ⟨A, c, rfl, -, -⟩ := hu.mk_
  obtain ⟨A2, c2, rfl, -, -⟩ := hu2.mk_
  obtain ⟨A3, c3, rfl, -, -⟩ := hu3.mk_
  clear hu hu2 hu3
  by_cases hl : l.length ≤ 200 ∧ l2.length ≤ 200 ∧ l3.length ≤ 200
  · obtain ⟨j1, j2, j3⟩ := hl
    have i1 : ¬ ((200 : Int) < (l.length : Int)) := by omega
    have i2 : ¬ ((200 : Int) < (l2.length : Int)) := by omega
    have i3 : ¬ ((200 : Int) < (l3.length : Int)) := by omega
    have k1 := fun W (hW : Below w.heap.size w W) => bverify_any W.heap.size _ _ _ l l2 l3 W (m1 W hW) (m2 W hW) (m3 W hW) (Nat.le_refl _) (by omega)
    have k2 := fun W (hW : Below w.heap.size w W) => rbverify_any W.heap.size _ _ _ l l2 l3 W (m1 W hW) (m2 W hW) (m3 W hW) (Nat.le_refl _) (by omega)
    unfold BVerP at k1 k2
    generalize bverLo l l2 l3 = lo at *
    generalize bverHi l l2 l3 = hi at *
    generalize bverC l l2 l3 = C at *
    replace k1 := Lib.hid k1
    replace k2 := Lib.hid k2
    clear m1 m2 m3 j1 j2 j3
    go_enter Try.func3, Try.ntmps3
    go_wp2_with fail
    refine (k1.out w (Below.refl _ _)).mono ?_
    rintro e w1 ⟨rfl, hb1⟩
    have hal := balloc w1 (.cells #[.int .i64 lo, .int .i64 hi] 25)
    have hx := Box.new w1 25 [.int .i64 lo, .int .i64 hi]
    change Box (w1.alloc (.cells #[.int .i64 lo, .int .i64 hi] 25)) _ _ _ at hx
    replace hb1 := bgo hb1 hal
    clear hal
    dsimp only
    go_wp2_with fail
    generalize w1.alloc (.cells #[.int .i64 lo, .int .i64 hi] 25) = W2 at *
    generalize w1.heap.size = p at *
    refine (k2.out W2 hb1).mono ?_
    rintro e w3 ⟨rfl, hb3⟩
    have hal := balloc w3 (.cells #[.int .i64 lo, .int .i64 hi] 25)
    have hy := Box.new w3 25 [.int .i64 lo, .int .i64 hi]
    change Box (w3.alloc (.cells #[.int .i64 lo, .int .i64 hi] 25)) _ _ _ at hy
    replace hx := (hx.below hb3).below hal
    replace hb3 := bgo (bgo hb1 hb3) hal
    clear hal hb1 k1 k2
    dsimp only
    go_wp2_with fail
    generalize w3.alloc (.cells #[.int .i64 lo, .int .i64 hi] 25) = W4 at *
    generalize w3.heap.size = q at *
    refine (known_any _).mono ?_
    rintro e w5 ⟨rfl, hb5⟩
    replace hx := hx.below hb5
    replace hy := hy.below hb5
    replace hb3 := bgo hb3 hb5
    have y0 : w5.cell? ⟨p, 0, none⟩ = some (.int .i64 lo) := hx.cell 0
    have y1 : w5.cell? ⟨p, 1, none⟩ = some (.int .i64 hi) := hx.cell 1
    have z0 : w5.cell? ⟨q, 0, none⟩ = some (.int .i64 lo) := hy.cell 0
    have z1 : w5.cell? ⟨q, 1, none⟩ = some (.int .i64 hi) := hy.cell 1
    clear hx hy hb5
    dsimp only
    go_wp2_with fail
    go_ret
    exact ⟨rfl, hb3⟩
  · clear m1 m2 m3
    by_cases j1 : l.length ≤ 200
    · by_cases j2 : l2.length ≤ 200
      · have i1 : ¬ ((200 : Int) < (l.length : Int)) := by omega
        have i2 : ¬ ((200 : Int) < (l2.length : Int)) := by omega
        have i3 : (200 : Int) < (l3.length : Int) := by omega
        clear hl
        go_enter Try.func3, Try.ntmps3
        go_wp2_with fail
        refine (known_any _).mono ?_
        rintro e w1 ⟨rfl, hb1⟩
        dsimp only
        go_wp2_with fail
        go_ret
        exact ⟨rfl, hb1⟩
      · have i1 : ¬ ((200 : Int) < (l.length : Int)) := by omega
        have i2 : (200 : Int) < (l2.length : Int) := by omega
        clear hl
        go_enter Try.func3, Try.ntmps3
        go_wp2_with fail
        refine (known_any _).mono ?_
        rintro e w1 ⟨rfl, hb1⟩
        dsimp only
        go_wp2_with fail
        go_ret
        exact ⟨rfl, hb1⟩
    · have i1 : (200 : Int) < (l.length : Int) := by omega
      clear hl
      go_enter Try.func3, Try.ntmps3
      go_wp2_with fail
      refine (known_any _).mono ?_
      rintro e w1 ⟨rfl, hb1⟩
      dsimp only
      go_wp2_with fail
      go_ret
      exact ⟨rfl, hb1⟩
end Go.Proofs.Ytdfnandhdgbgeaa

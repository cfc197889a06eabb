/- What a law leans on beyond the base: contracts, plain functions, walks. Conditions: those of each theorem. -/
import Derived.Test.YtjgepckncogdaaaGreatTCtQ
set_option linter.unusedVariables false
set_option linter.unusedSimpArgs false
namespace Go.Proofs.YtjgepckncogdaaaGreat
open Go Go.RowKit
set_option linter.unusedVariables false
set_option linter.unusedSimpArgs false
attribute [local go_sem ↓] Go.wp_at_zero Go.wp_at_succ
set_option maxRecDepth 100000 in
theorem cfirst_nil (w : World) : Calls Tryz.prog 45 #[.slice none 0 0, .slice none 0 0, .int .i64 0] w fun e w' => e = .returned (.tuple #[.agg #[.int .i64 0, .int .i64 0], .slice none 0 0, .int .i64 4]) ∧ Below w.heap.size w w' := by
 have hal := balloc w (.cells #[.int .i64 0, .int .i64 0] 24)
 have x6 := Box.new w 24 [.int .i64 0, .int .i64 0]
 change Box (w.alloc (.cells #[.int .i64 0, .int .i64 0] 24)) _ _ _ at x6
 obtain ⟨k0, k1, f0, f1⟩ := box2_cells x6
 have x7 := Lib.hid (box_set2 x6 (.int .i64 0) (.int .i64 0))
 have hb7 := Lib.hid (below_set2 (g := w.heap.size) hal (Nat.le_refl _) (.int .i64 0) (.int .i64 0))
 replace x6 := Lib.hid x6
 replace hal := Lib.hid hal
 go_enter Tryz.func45, Tryz.ntmps45
 go_upto_region 1 with (fail)
 generalize w.alloc (.cells #[.int .i64 0, .int .i64 0] 24) = W0 at *
 go_wp2_with fail
 clear k0 k1 f0 f1
 obtain ⟨k0, k1⟩ := boxT2 x7.out
 refine bodyPost_ret (v := .tuple #[.agg #[.int .i64 0, .int .i64 0], .slice none 0 0, .int .i64 4]) (by simp [results, Tryz.results45, go_sem, k0, k1]) rfl ?_
 exact ⟨rfl, hb7.out⟩
set_option maxRecDepth 100000 in
theorem ckn_any (w : World) : Calls Tryz.prog 42 #[] w (BoolPost true w) := by
 go_enter Tryz.func42, Tryz.ntmps42
 go_wp2_with fail
 refine (cfirst_nil _).mono ?_
 rintro e w1 ⟨rfl, hb1⟩
 have hal := balloc w1 (.cells #[.int .i64 0, .int .i64 0] 24)
 have hb2 := Lib.hid (bgo hb1 hal)
 dsimp only
 go_upto_region 2 with (fail)
 generalize w1.alloc (.cells #[.int .i64 0, .int .i64 0] 24) = W2 at *
 have hw := cwin_any W2.heap.size (.slice none 0 0) (.slice none 0 0) [] [] W2 (SeesB.nil _ _) (SeesR.nil _ _ _) (Nat.le_refl _) (fun c hc => absurd hc (by simp)) (by simp)
 unfold WinP at hw
 rw [show winV [] [] = (0, 0) from rfl, show winC [] [] = 8 from rfl] at hw
 replace hw := Lib.hid hw
 go_wp2_with fail
 refine hw.out.mono ?_
 rintro e w3 ⟨rfl, hb3⟩
 have hal2 := balloc w3 (.cells #[.int .i64 0, .int .i64 0] 24)
 have hb4 := Lib.hid (bgo hb2.out (bgo hb3 hal2))
 dsimp only
 go_wp2_with fail
 go_ret
 exact ⟨rfl, hb4.out⟩
section
variable {w w' : World} {base size n g : Nat} {T : TypeId} {v : Value} {ss : List Spec}
theorem OwnRF.tape (h : OwnRF w base T v size n ss) (hg : w.grownBy w' (some g)) (hb : g < base) : OwnRF w' base T v size n ss := by
 obtain ⟨h0, vs, h1, h2⟩ := h
 refine ⟨h0, vs, row_tape h1 hg hb, fun k s hk => ?_⟩
 obtain ⟨u, e1, e2, e3⟩ := h2 k s hk
 refine ⟨u, e1, ?_, e3⟩
 cases s with
 | val y => exact e2
 | byt l => exact ⟨sees_grown_far e2.1 e3 hg (fun j hj => by cases hj; exact hb), e2.2⟩
end
theorem below_tape {B g : Nat} {w w1 w2 : World} (h : Below B w w1) (hg : w1.grownBy w2 (some g)) (hB : B ≤ g) (hs : B ≤ w1.heap.size) : Below B w w2 :=
 h.trans ⟨hg.os, hg.tape, hg.output, hg.size, fun k hk => hg.block k (by omega) (fun e => by injection e with e; omega)⟩
end Go.Proofs.YtjgepckncogdaaaGreat

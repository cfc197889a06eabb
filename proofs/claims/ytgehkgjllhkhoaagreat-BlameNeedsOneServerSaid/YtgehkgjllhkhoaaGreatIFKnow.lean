/- Contracts that a law leans on, and its walk. Conditions: those of each theorem. -/
import Derived.Test.YtgehkgjllhkhoaaGreatIFChk
import Derived.Test.YtgehkgjllhkhoaaGreatIRCSame
namespace Go.Proofs.YtgehkgjllhkhoaaGreat
open Go Go.RowKit
set_option linter.unusedVariables false
set_option linter.unusedSimpArgs false
attribute [local go_sem ↓] Go.wp_at_zero Go.wp_at_succ
theorem nil_row (w : World) : SeesR w w.heap.size (.slice none 0 0) 3 ([] : List LinkG).length (linkS []) := (OwnR.nil w w.heap.size 101 3).sees
theorem find_nil {w w' : World} {e : Ending} (h : FindP [] w e w') : e = .returned (.tuple #[.agg #[.slice none 0 0, .int .i64 0, .int .i64 0], .bool false, .int .i64 0]) ∧ Below w.heap.size w w' := by
 rcases h with ⟨h, -⟩ | ⟨-, -, h1, h2⟩ | ⟨-, i, j, v, ⟨h1, h2, -⟩, -⟩
 · exact absurd (show cverC [] = 0 from rfl) h
 · exact ⟨h1, h2⟩
 · exact absurd h2 (by simp)
theorem chk_nil : fchkC [] 0 0 = 24 := rfl
theorem chkB_nil : fchkB [] 0 0 = [] := rfl
set_option maxRecDepth 100000 in
set_option maxHeartbeats 1000000 in
theorem fknown_any (w : World) : Calls Tryz.prog 16 #[] w fun e w' => e = .returned (.bool true) ∧ Below w.heap.size w w' := by
 have h1 := Lib.hid (fcheck_any w.heap.size _ [] 0 0 w (nil_row w) (Nat.le_refl _) (by simp) (by simp))
 have h2 := Lib.hid (fun W => bfind_any W.heap.size _ [] W (nil_row W) (Nat.le_refl _) (by simp) (by simp))
 go_enter Tryz.func16, Tryz.ntmps16
 go_wp2_with fail
 refine h1.out.mono ?_
 rintro e w1 ⟨v1, rfl, s1, hb1⟩
 rw [chkB_nil] at s1
 rw [chk_nil]
 obtain ⟨A1, c1, rfl, -, -⟩ := s1.mk_
 dsimp only
 go_wp2_with fail
 refine (h2.out w1).mono ?_
 intro e w2 h3
 obtain ⟨rfl, hb2⟩ := find_nil h3
 have hb := Lib.hid (bgo (bgo hb1 hb2) (balloc w2 (.cells #[.slice none 0 0, .int .i64 0, .int .i64 0] 30)))
 clear h1 h2 s1 hb1 hb2 h3
 dsimp only
 go_wp2_with fail
 go_ret
 exact ⟨rfl, hb.out⟩
end Go.Proofs.YtgehkgjllhkhoaaGreat

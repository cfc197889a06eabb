/- Contracts that a law leans on, and its walk. Conditions: those of each theorem. -/
import Derived.Test.YtemopnhhmilhbaaGreatGFChk
import Derived.Test.YtemopnhhmilhbaaGreatGRCSame
namespace Go.Proofs.YtemopnhhmilhbaaGreat
open Go Go.RowKit
set_option linter.unusedVariables false
set_option linter.unusedSimpArgs false
attribute [local go_sem ↓] Go.wp_at_zero Go.wp_at_succ
theorem nil_row (w : World) : SeesR w w.heap.size (.slice none 0 0) 3 ([] : List LinkG).length (linkS []) := (OwnR.nil w w.heap.size 32 3).sees
theorem find_nil {w w' : World} {e : Ending} (h : FindP [] w e w') : e = .returned (.tuple #[.agg #[.slice none 0 0, .int .i64 0, .int .i64 0], .bool false, .int .i64 0]) ∧ Below w.heap.size w w' := by
 rcases h with ⟨h, -⟩ | ⟨-, -, h1, h2⟩ | ⟨-, i, j, v, ⟨h1, h2, -⟩, -⟩
 · exact absurd (show cverC [] = 0 from rfl) h
 · exact ⟨h1, h2⟩
 · exact absurd h2 (by simp)
theorem chk_nil : fchkC [] 0 0 = 24 := rfl
theorem chkB_nil : fchkB [] 0 0 = [] := rfl
set_option maxRecDepth 100000 in
set_option maxHeartbeats 1000000 in
theorem fknown_any (w : World) : Calls Tryz.prog 30 #[] w fun e w' => e = .returned (.bool true) ∧ Below w.heap.size w w' := by
 have h1 := Lib.hid (fcheck_any w.heap.size _ [] 0 0 w (nil_row w) (Nat.le_refl _) (by simp) (by simp))
 have h2 := Lib.hid (fun W => bfind_any W.heap.size _ [] W (nil_row W) (Nat.le_refl _) (by simp) (by simp))
 go_enter Tryz.func30, Tryz.ntmps30
 go_wp2_with fail
 refine h1.out.mono ?_
 rintro e w1 ⟨v1, rfl, s1, hb1⟩
 rw [chkB_nil] at s1
 rw [chk_nil]
 obtain ⟨A1, c1, rfl, -, -⟩ := s1.mk_
 dsimp only
 go_wp2_with fail
 refine (h2.out w1).mono ?_
 intro e w2 h3
 obtain ⟨rfl, hb2⟩ := find_nil h3
 have hb := Lib.hid (bgo (bgo hb1 hb2) (balloc w2 (.cells #[.slice none 0 0, .int .i64 0, .int .i64 0] 47)))
 clear h1 h2 s1 hb1 hb2 h3
 dsimp only
 go_wp2_with fail
 go_ret
 exact ⟨rfl, hb.out⟩
def FindQ (ls : List LinkG) (ok : Bool) (f s c : Int) (w : World) (e : Ending) (w' : World) : Prop :=
 ∃ v, e = .returned (.tuple #[.agg #[v, .int .i64 f, .int .i64 s], .bool ok, .int .i64 c]) ∧ SeesR w' w'.heap.size v 3 ls.length (linkS ls) ∧ Below w.heap.size w w'
theorem find_q {ls : List LinkG} {w w' : World} {e : Ending} (h : FindP ls w e w') : ∃ (ok : Bool) (f s c : Int) (ls' : List LinkG), ls'.length ≤ ls.length ∧ FindQ ls' ok f s c w e w' ∧ ∀ w e w', FindP ls w e w' → FindQ ls' ok f s c w e w' := by
 rcases h with ⟨h0, rfl, hb⟩ | ⟨h0, hr, rfl, hb⟩ | ⟨h0, i, j, v, hr, rfl, hs, hb⟩
 · refine ⟨false, 0, 0, cverC ls, [], by simp, ⟨_, rfl, nil_row _, hb⟩, ?_⟩
   rintro w e w' (⟨-, rfl, hb⟩ | ⟨h, -⟩ | ⟨h, -⟩)
   · exact ⟨_, rfl, nil_row _, hb⟩
   · exact absurd h h0
   · exact absurd h h0
 · refine ⟨false, 0, 0, 0, [], by simp, ⟨_, rfl, nil_row _, hb⟩, ?_⟩
   rintro w e w' (⟨h, -⟩ | ⟨-, -, rfl, hb⟩ | ⟨-, i, j, v, hr', -⟩)
   · exact absurd h0 h
   · exact ⟨_, rfl, nil_row _, hb⟩
   · cases find_one hr hr'
 · refine ⟨true, i, j, 0, ls.take (j + 1), by rw [List.length_take]; omega, ⟨_, rfl, hs, hb⟩, ?_⟩
   rintro w e w' (⟨h, -⟩ | ⟨-, hr', -⟩ | ⟨-, i', j', v, hr', rfl, hs, hb⟩)
   · exact absurd h0 h
   · cases find_one hr hr'
   · have := find_one hr hr'
     simp only [Option.some.injEq, Prod.mk.injEq] at this
     obtain ⟨rfl, rfl⟩ := this
     exact ⟨_, rfl, hs, hb⟩
set_option maxRecDepth 100000 in
set_option maxHeartbeats 1000000 in
theorem psame_any (u v : Value) (ls : List LinkG) (f s : Int) (w : World) (hu : SeesR w w.heap.size u 3 ls.length (linkS ls)) (hv : SeesR w w.heap.size v 3 ls.length (linkS ls)) (hn : ls.length ≤ 1000) :
 Calls Tryz.prog 31 #[.agg #[u, .int .i64 f, .int .i64 s], .agg #[v, .int .i64 f, .int .i64 s]] w fun e w' => e = .returned (.bool true) ∧ Below w.heap.size w w' := by
 obtain ⟨A, c, rfl, -, -⟩ := hu.mk_
 obtain ⟨A', c', rfl, -, -⟩ := hv.mk_
 have hal := bgo (balloc w (.cells #[.slice A ls.length c, .int .i64 f, .int .i64 s] 47)) (balloc _ (.cells #[.slice A' ls.length c', .int .i64 f, .int .i64 s] 47))
 have x1 := (Box.new w 47 [.slice A ls.length c, .int .i64 f, .int .i64 s]).below (balloc _ (.cells #[.slice A' ls.length c', .int .i64 f, .int .i64 s] 47))
 have x2 := Box.new (w.alloc (.cells #[.slice A ls.length c, .int .i64 f, .int .i64 s] 47)) 47 [.slice A' ls.length c', .int .i64 f, .int .i64 s]
 rw [World.size_alloc] at x2
 change Box ((w.alloc (.cells #[.slice A ls.length c, .int .i64 f, .int .i64 s] 47)).alloc (.cells #[.slice A' ls.length c', .int .i64 f, .int .i64 s] 47)) _ _ _ at x1 x2
 go_enter Tryz.func31, Tryz.ntmps31
 go_upto_region 1 with (fail)
 have hs := fun W (hW : Below ((w.alloc (.cells #[.slice A ls.length c, .int .i64 f, .int .i64 s] 47)).alloc (.cells #[.slice A' ls.length c', .int .i64 f, .int .i64 s] 47)).heap.size ((w.alloc (.cells #[.slice A ls.length c, .int .i64 f, .int .i64 s] 47)).alloc (.cells #[.slice A' ls.length c', .int .i64 f, .int .i64 s] 47)) W) => rcsame_eq _ _ ls W ((hu.below (bgo hal hW)).more (bgo hal hW).size) ((hv.below (bgo hal hW)).more (bgo hal hW).size) (by omega)
 generalize (w.alloc (.cells #[.slice A ls.length c, .int .i64 f, .int .i64 s] 47)).alloc (.cells #[.slice A' ls.length c', .int .i64 f, .int .i64 s] 47) = W0 at *
 have hs0 := Lib.hid (hs W0 (Below.refl _ _))
 replace hs := Lib.hid hs
 obtain ⟨k0, k1, k2, -, -, -⟩ := box3_cells x1
 obtain ⟨m0, m1, m2, -, -, -⟩ := box3_cells x2
 replace hal := Lib.hid hal
 go_wp2_with fail
 refine hs0.out.mono ?_
 rintro e w1 ⟨rfl, hb1⟩
 have y1 := x1.below hb1
 have y2 := x2.below hb1
 clear k0 k1 k2 m0 m1 m2
 obtain ⟨k0, k1, k2, -, -, -⟩ := box3_cells y1
 obtain ⟨m0, m1, m2, -, -, -⟩ := box3_cells y2
 have hb := Lib.hid (bgo hal.out hb1)
 dsimp only
 go_wp2_with fail
 go_ret
 exact ⟨rfl, hb.out⟩
end Go.Proofs.YtemopnhhmilhbaaGreat

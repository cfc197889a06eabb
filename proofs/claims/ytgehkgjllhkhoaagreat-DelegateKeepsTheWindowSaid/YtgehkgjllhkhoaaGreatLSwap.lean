/- What a law leans on beyond the base: contracts, plain functions, walks. Conditions: those of each theorem. -/
import Derived.Test.YtgehkgjllhkhoaaGreatH28
import Derived.Test.YtgehkgjllhkhoaaGreatH25
namespace Go.Proofs.YtgehkgjllhkhoaaGreat
open Go Go.RowKit
set_option linter.unusedVariables false
set_option linter.unusedSimpArgs false
attribute [local go_sem ↓] Go.wp_at_zero Go.wp_at_succ
set_option maxRecDepth 100000 in
set_option maxHeartbeats 2000000 in
theorem kswap_any (u u2 u3 : Value) (a p s : Bs) (f t : Int) (w : World) (hu : SeesB w w.heap.size u a) (hu2 : SeesB w w.heap.size u2 p) (hu3 : SeesB w w.heap.size u3 s) (hp : p.length ≤ 1048576) (hs : s.length ≤ 4000) (hl : (dencB p f t s).length = 672) (h1 : 672 ≤ a.length) (h2 : a.length ≤ 2048) :
 Calls Tryz.prog 54 #[u, .agg #[u2, .int .i64 f, .int .i64 t, u3]] w (Gives (a.take (a.length - 672) ++ dencB p f t s) w) := by
 obtain ⟨A, c, rfl, q1, q2⟩ := hu.mk_
 obtain ⟨A2, c2, rfl, -, -⟩ := hu2.mk_
 obtain ⟨A3, c3, rfl, -, -⟩ := hu3.mk_
 have hal := balloc w (.cells #[.slice A2 p.length c2, .int .i64 f, .int .i64 t, .slice A3 s.length c3] 82)
 have hx := Box.new w 82 [.slice A2 p.length c2, .int .i64 f, .int .i64 t, .slice A3 s.length c3]
 change Box (w.alloc (.cells #[.slice A2 p.length c2, .int .i64 f, .int .i64 t, .slice A3 s.length c3] 82)) _ _ _ at hx
 have hen := rdencode_any _ _ _ p s f t (w.alloc (.cells #[.slice A2 p.length c2, .int .i64 f, .int .i64 t, .slice A3 s.length c3] 82)) (seesB_of hu2 (Nat.le_refl _) hal) (seesB_of hu3 (Nat.le_refl _) hal) (Nat.le_refl _) hp hs
 unfold DEncP at hen
 replace hu := seesB_of hu (Nat.le_refl _) hal
 obtain ⟨y0, y1, y2, y3, -, -, -, -⟩ := box4_cells hx
 generalize dencC p f t s = C at *
 generalize dencB p f t s = E at *
 replace hen := Lib.hid hen
 replace hl := Lib.hid hl
 clear hu2 hu3 hx
 go_enter Tryz.func54, Tryz.ntmps54
 go_upto_region 1 with (fail)
 generalize w.alloc (.cells #[.slice A2 p.length c2, .int .i64 f, .int .i64 t, .slice A3 s.length c3] 82) = W0 at *
 go_wp2_with fail
 refine hen.out.mono ?_
 rintro e w1 ⟨v1, rfl, o1, hb1⟩
 replace hu := seesB_of hu (Nat.le_refl _) hb1
 have o1s := o1.sees
 obtain ⟨A4, c4, rfl, -, -⟩ := o1.sees.mk_
 have hrc := run_cut_to (P := Tryz.prog) 34 Tryz.underlying34 1 byte_size A a.length c .i64 ((a.length - 672 : Nat) : Int) (by omega) (by omega)
 rw [Int.toNat_natCast, Nat.sub_zero, Nat.sub_zero] at hrc
 have s9 := SeesB.cut (a := 0) (b := a.length - 672) hu (by omega) (by omega)
 rw [List.drop_zero, Nat.sub_zero, Nat.sub_zero] at s9
 have hl9 : (a.take (a.length - 672)).length = a.length - 672 := by rw [List.length_take]; omega
 have hsub : IntKind.i64.wrap ((a.length : Int) - (E.length : Int)) = ((a.length - 672 : Nat) : Int) := by rw [hl.out, IntKind.wrap_i64]; omega
 have i3 : ((a.length - 672 : Nat) : Int) ≤ (c : Int) := by omega
 have i4 : (0 : Int) ≤ ((a.length - 672 : Nat) : Int) := by omega
 have i5 : a.length - 672 ≤ 2048 := by omega
 generalize cutA A c 0 1 = A9 at *
 generalize a.take (a.length - 672) = d at *
 generalize a.length - 672 = m at *
 obtain rfl := hl9
 have hal2 := balloc w1 (.cells #[.slice A9 d.length c, .slice A4 E.length c4] 34)
 have sl := seesL_lit w1 34 (vs := [.slice A9 d.length c, .slice A4 E.length c4]) (ls := [d, E]) ⟨s9, o1s, trivial⟩ (by simp [maxLen])
 have hj := rjoin_any _ _ _ _ sl (Nat.le_refl _) (by simp; have := hl.out; omega)
 rw [show [d, E].flatten = d ++ E by simp] at hj
 replace hj := Lib.hid hj
 have hbw := Lib.hid (bgo (bgo hal hb1) hal2)
 clear hu o1 s9 o1s sl hal hb1 hal2 q1 q2 h1 h2
 dsimp only
 go_wp2_with fail
 refine hj.out.mono ?_
 rintro e w2 ⟨v2, rfl, o2, hb2⟩
 replace o2 := o2.mono hbw.out.size
 replace hbw := Lib.hid (bgo hbw.out hb2)
 dsimp only
 go_wp2_with fail
 go_returns
 exact ⟨_, rfl, o2, hbw.out⟩
end Go.Proofs.YtgehkgjllhkhoaaGreat

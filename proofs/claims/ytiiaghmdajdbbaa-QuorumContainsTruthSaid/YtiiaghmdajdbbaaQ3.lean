/- The walk of the statement QuorumContainsTruth: it returns true. Conditions: the numbers are seen. -/
import Derived.Test.YtiiaghmdajdbbaaQ2
import Derived.Test.YtiiaghmdajdbbaaQZ
namespace Go.Proofs.Ytiiaghmdajdbbaa
open Go Go.RowKit
set_option linter.unusedVariables false
set_option linter.unusedSimpArgs false
attribute [local go_sem ↓] Go.wp_at_zero Go.wp_at_succ
set_option maxRecDepth 100000 in
set_option maxHeartbeats 4000000 in
theorem contains_law (B : Nat) (v : Value) (l : List Int) (w : World) (s : SeesT w B v l) (hB : B ≤ w.heap.size) (truth : Int) (wt : (Lit.int .i64 truth).wf = true) :
    Calls Try.prog 6 #[v, .int .i64 truth] w fun e w' => e = .returned (.bool true) ∧ Below w.heap.size w w' := by
  have hs0 : SeesT w w.heap.size v l := Sees.more s hB
  have hwi := Lib.hid (fun W => kwithin_any truth 30 (by omega) (by omega) W)
  have r1 := Int.emod_nonneg truth (show (30 : Int) ≠ 0 by omega)
  have r2 := Int.emod_lt_of_pos truth (show (0 : Int) < 30 by omega)
  generalize truth % 30 = x at *
  have hso := Lib.hid (sources_any v l (x - 15) w hs0 (by omega) (by omega))
  obtain ⟨A, c, rfl, -, -⟩ := hs0.mk_
  clear s hs0
  go_enter Try.func6, Try.ntmps6
  go_wp2_with fail
  refine (hwi.out _).mono ?_
  rintro e w' ⟨rfl, hw⟩
  obtain rfl := hw
  dsimp only
  go_wp2_with fail
  refine hso.out.mono ?_
  rintro e w1 ⟨u, ls, f, rfl, ho, hsrc, hb1⟩
  obtain ⟨Au, cu, rfl, -, -⟩ := (Sees.of_own ho).mk_
  have hss : Hid (SeesS w1 w1.heap.size (.slice Au ls.length cu) ls) := Sees.of_own ho
  have hn := hsrc.le
  have hag := Lib.hid (qagree_any w1.heap.size _ ls f w1 hss.out (Nat.le_refl _) (by omega))
  have ht1 : -15 ≤ x - 15 := by omega
  have ht2 : x - 15 ≤ 15 := by omega
  generalize x - 15 = t at *
  replace hb1 := Lib.hid hb1
  replace hsrc := Lib.hid hsrc
  clear ho hso hwi
  dsimp only
  go_wp2_with fail
  refine hag.out.mono ?_
  rintro e w2 ⟨o, hao, rfl, hb2⟩
  obtain ⟨s, rfl, hh, hv, t1, t2⟩ := hsrc.out.agree hao
  rw [hao.some_c]
  obtain ⟨a, b⟩ := s
  dsimp only [Option.getD] at *
  obtain ⟨tr0, trv, tr1, tr2⟩ := Src.trim (s := (a, b)) hsrc.out hh hv
  have hout := Lib.hid (Src.out (s := (a, b)) hsrc.out hv ⟨t1, t2⟩)
  have x7 := Box.new w2 28 [.int .i64 a, .int .i64 b]
  change Box (w2.alloc (.cells #[.int .i64 a, .int .i64 b] 28)) _ _ _ at x7
  have hal := balloc w2 (.cells #[.int .i64 a, .int .i64 b] 28)
  have hb3 := Lib.hid (bgo hb2 hal)
  replace hao := Lib.hid hao
  replace hh := Lib.hid hh
  replace hv := Lib.hid hv
  replace trv := Lib.hid trv
  clear hag hb2 hal
  go_upto_region 4 with (fail)
  generalize w2.alloc (.cells #[.int .i64 a, .int .i64 b] 28) = W3 at *
  generalize w2.heap.size = g7 at *
  have htr := Lib.hid (trim_any w1.heap.size _ ls f W3 (SeesS.below hss.out hb3.out) hb3.out.size (by omega))
  go_wp2_with fail
  refine htr.out.mono ?_
  rintro e w4 ⟨rfl, hb4⟩
  have e1 : trLo ls f = tLo ls f := by unfold trLo; rw [if_pos tr0]
  have e2 : trHi ls f = tHi ls f := by unfold trHi; rw [if_pos tr0]
  rw [e1, e2, tr0]
  replace tr0 := Lib.hid tr0
  clear e1 e2
  generalize tLo ls f = tl at *
  generalize tHi ls f = th at *
  have x9 := Box.new w4 28 [.int .i64 tl, .int .i64 th]
  change Box (w4.alloc (.cells #[.int .i64 tl, .int .i64 th] 28)) _ _ _ at x9
  have hal := balloc w4 (.cells #[.int .i64 tl, .int .i64 th] 28)
  replace x7 := x7.below (bgo hb4 hal)
  have hb5 := Lib.hid (bgo hb3.out (bgo hb4 hal))
  clear htr hb3 hb4 hal
  dsimp only
  go_upto_region 5 with (fail)
  generalize w4.alloc (.cells #[.int .i64 tl, .int .i64 th] 28) = W5 at *
  generalize w4.heap.size = g9 at *
  have hou := Lib.hid (outside_any w1.heap.size _ ls f W5 (SeesS.below hss.out hb5.out) hb5.out.size (by omega))
  go_wp2_with fail
  refine hou.out.mono ?_
  rintro e w6 ⟨o', vx, ho', rfl, hx, hb6⟩
  obtain rfl := AgO.uniq ho' hao.out
  rw [hao.out.some_c]
  obtain ⟨Ax, cx, rfl, -, -⟩ := SeesI.mk_ hx
  replace x7 := x7.below hb6
  replace x9 := x9.below hb6
  have hb7 := Lib.hid (bgo hb5.out hb6)
  replace hx := Lib.hid hx
  have hxl : (outX ls (some (a, b))).length ≤ ls.length := outN_len ls a b ls.length
  generalize outX ls (some (a, b)) = xs at *
  clear hou hb5 hb6 ho'
  have hne := Lib.hid (need_any w1.heap.size _ ls w6 (SeesS.below hss.out hb7.out) hb7.out.size (by omega))
  dsimp only
  go_wp2_with fail
  refine hne.out.mono ?_
  rintro e w7 ⟨n, cn, rfl, hnr, hb8⟩
  obtain ⟨rfl, hnf⟩ := hnr.found hsrc.out.ok hsrc.out.f0 hsrc.out.f2 hh.out
  replace x7 := x7.below hb8
  replace x9 := x9.below hb8
  replace hx := Lib.hid (Lit.below hx.out hb8)
  have hb9 := Lib.hid (bgo hb7.out hb8)
  clear hne hb7 hb8 hnr hss
  have hh1 := Lib.hid (fun W => rholds_any a b t W)
  have hh2 := Lib.hid (fun W => rholds_any tl th t W)
  have hins := Lib.hid (fun W => rinside_any a b tl th W)
  have q1 : hdB a b t = true := by unfold hdB; rw [hv.out, decide_eq_true t1, decide_eq_true t2]; rfl
  have q2 : hdB tl th t = true := by unfold hdB; rw [trv.out, decide_eq_true (show tl ≤ t by omega), decide_eq_true (show t ≤ th by omega)]; rfl
  have q3 : inS a b tl th = true := by unfold inS; rw [hv.out, trv.out, decide_eq_true tr1, decide_eq_true tr2]; rfl
  rw [q1] at hh1
  rw [q2] at hh2
  rw [q3] at hins
  clear q1 q2 q3
  obtain ⟨y0, y1⟩ := boxT2 x7
  dsimp only
  go_wp2_with fail
  refine (hh1.out _).mono ?_
  rintro e w8 ⟨rfl, hb1'⟩
  replace x7 := x7.below hb1'
  replace x9 := x9.below hb1'
  replace hx := Lib.hid (Lit.below hx.out hb1')
  replace hb9 := Lib.hid (bgo hb9.out hb1')
  clear y0 y1 hb1' hh1
  obtain ⟨y0, y1⟩ := boxT2 x9
  dsimp only
  go_wp2_with fail
  refine (hh2.out _).mono ?_
  rintro e w9 ⟨rfl, hb1'⟩
  replace x7 := x7.below hb1'
  replace x9 := x9.below hb1'
  replace hx := Lib.hid (Lit.below hx.out hb1')
  replace hb9 := Lib.hid (bgo hb9.out hb1')
  clear y0 y1 hb1' hh2
  obtain ⟨y0, y1⟩ := boxT2 x7
  obtain ⟨z0, z1⟩ := boxT2 x9
  dsimp only
  go_wp2_with fail
  refine (hins.out _).mono ?_
  rintro e w10 ⟨rfl, hb1'⟩
  replace hx := Lib.hid (Lit.below hx.out hb1')
  replace hb9 := Lib.hid (bgo hb9.out hb1')
  clear y0 y1 z0 z1 hb1' hins x7 x9 t1 t2 tr1 tr2
  dsimp only
  go_wp2_with fail
  go_loop [15] (fun i => ∃ k : Nat, k ≤ xs.length ∧ i = .int .i64 k) (fun i => xs.length - (intOf i).toNat)
  case atStart => exact ⟨0, Nat.zero_le _, rfl⟩
  case round =>
    obtain ⟨k, hk, rfl⟩ := hrel
    by_cases hlt : k < xs.length
    · obtain ⟨b', o', rfl, hbB, hds⟩ := SeesI.at_ (Lit.sees hx.out) (by omega)
      obtain ⟨y, hy⟩ : ∃ y, xs[k]? = some y := ⟨_, List.getElem?_eq_getElem hlt⟩
      have c0 := hds k y hy
      have hyf := hout.out y (List.mem_of_getElem? hy)
      have i0 : (k : Int) < (xs.length : Int) := by omega
      have i1 : (0 : Int) ≤ (k : Int) := by omega
      replace hy := Lib.hid hy
      clear hds
      go_wp2_with fail
      go_round
      case rel => exact ⟨k + 1, by omega, by go_num⟩
      case measure => simp [intOf]; omega
    · have i0 : ¬ (k : Int) < (xs.length : Int) := by omega
      have hkn := Lib.hid (fun W => known_any W)
      go_wp2_with fail
      refine (hkn.out _).mono ?_
      rintro e w11 ⟨rfl, hbk⟩
      replace hb9 := Lib.hid (bgo hb9.out hbk)
      clear hbk
      dsimp only
      go_wp2_with fail
      go_returns
      exact ⟨rfl, bgo hb1.out hb9.out⟩
end Go.Proofs.Ytiiaghmdajdbbaa

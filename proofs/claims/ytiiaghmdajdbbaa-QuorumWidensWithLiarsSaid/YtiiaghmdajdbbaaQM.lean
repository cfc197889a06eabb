/- Contracts of sectimeref34.Least, sectimeref35.Hull, Agree. Conditions: the spans are seen, at most 64. -/
import Derived.Test.YtiiaghmdajdbbaaQL
import Derived.Test.YtiiaghmdajdbbaaQI
import Derived.Test.YtiiaghmdajdbbaaQH
namespace Go.Proofs.Ytiiaghmdajdbbaa
open Go.RowKit
set_option linter.unusedVariables false
set_option linter.unusedSimpArgs false
attribute [local go_sem ↓] Go.wp_at_zero Go.wp_at_succ
set_option maxRecDepth 100000 in
theorem rsleast_any (B : Nat) (u : Value) (l : List Sp) (n : Int) (w : World) (hu : SeesS w B u l) (hB : B ≤ w.heap.size) (hn : l.length ≤ 64) (h0 : 0 < l.length) (hok : okV l = true) (h1 : 1 ≤ n) (h2 : n ≤ 1000) :
    Calls Try.prog 42 #[u, .int .i64 n] w (LeastP2 l n w) := by
  have hpr := Lib.hid (profile_any B u l w hu hB hn h0 hok)
  obtain ⟨A, c, rfl, -, -⟩ := hu.mk_
  replace hok := Lib.hid hok
  clear hu
  go_enter Try.func42, Try.ntmps42
  go_wp2_with fail
  refine hpr.out.mono ?_
  rintro e w1 ⟨v, ps, rfl, ho, hA, hpl, hpb, hb⟩
  obtain ⟨As, cs, rfl, -, -⟩ := (Sees.of_own ho).mk_
  have hl1 := Lib.hid (rleast_any w1.heap.size _ l ps n w1 (Sees.of_own ho) (Nat.le_refl _) hA hpl hpb hok.out h1 h2)
  replace hb := Lib.hid hb
  clear hpr ho hA hpb
  dsimp only
  go_wp2_with fail
  refine hl1.out.mono ?_
  rintro e w2 ⟨v, out, rfl, ho, hA, hl, hb2⟩
  replace ho := Lib.hid ho
  replace hA := Lib.hid hA
  replace hl := Lib.hid hl
  replace hb2 := Lib.hid hb2
  dsimp only
  go_wp2_with fail
  go_returns
  exact ⟨v, out, rfl, row_mono ho.out hb.out.size, hA.out, hl.out, bgo hb.out hb2.out⟩
def HullP (l : List Sp) (n : Int) (w : World) (e : Ending) (w' : World) : Prop := ∃ o : Option Sp, IsHull l n o ∧ e = .returned (.tuple #[.agg #[.int .i64 (o.getD (0, 0)).1, .int .i64 (o.getD (0, 0)).2], .int .i64 (if o.isSome then 0 else 21)]) ∧ Below w.heap.size w w'
theorem hull_no {l : List Sp} {n : Int} {w w' : World} (h : LAll l n []) (hb : Below w.heap.size w w') : HullP l n w (.returned (.tuple #[.agg #[.int .i64 0, .int .i64 0], .int .i64 21])) w' := ⟨none, h.none, rfl, hb⟩
theorem hull_yes {l : List Sp} {n : Int} {w w' : World} {out : List Sp} {a b : Sp} (h : LAll l n out) (ha : out[0]? = some a) (hb' : out[out.length - 1]? = some b) (hb : Below w.heap.size w w') : HullP l n w (.returned (.tuple #[.agg #[.int .i64 a.1, .int .i64 b.2], .int .i64 0])) w' := ⟨some (a.1, b.2), h.some ha hb', rfl, hb⟩
set_option maxRecDepth 100000 in
theorem hull_any (B : Nat) (u : Value) (l : List Sp) (n : Int) (w : World) (hu : SeesS w B u l) (hB : B ≤ w.heap.size) (hn : l.length ≤ 64) (h0 : 0 < l.length) (hok : okV l = true) (h1 : 1 ≤ n) (h2 : n ≤ 1000) :
    Calls Try.prog 32 #[u, .int .i64 n] w (HullP l n w) := by
  have x4 := Box.new w 28 [.int .i64 0, .int .i64 0]
  change Box (w.alloc (.cells #[.int .i64 0, .int .i64 0] 28)) _ _ _ at x4
  have hal := balloc w (.cells #[.int .i64 0, .int .i64 0] 28)
  have hle := Lib.hid (rsleast_any B u l n _ (SeesS.below hu (hal.mono hB)) (Nat.le_trans hB hal.size) hn h0 hok h1 h2)
  obtain ⟨A, c, rfl, -, -⟩ := hu.mk_
  replace hok := Lib.hid hok
  replace hal := Lib.hid hal
  clear hu
  go_enter Try.func32, Try.ntmps32
  go_upto_region 1 with (fail)
  generalize w.alloc (.cells #[.int .i64 0, .int .i64 0] 28) = W0 at *
  generalize hgg : w.heap.size = g4 at x4 ⊢
  replace hgg := Lib.hid hgg
  go_wp2_with fail
  refine hle.out.mono ?_
  rintro e w1 ⟨v, out, rfl, ho, hA, hl, hb1⟩
  obtain ⟨As, cs, rfl, -, -⟩ := (Sees.of_own ho).mk_
  have hbw := Lib.hid (bgo hal.out hb1)
  have hg4 := Lib.hid x4.lt
  replace x4 := x4.below hb1
  clear hle hal
  obtain ⟨k0, k1, k2, k3⟩ := box2_cells x4
  rcases Nat.eq_zero_or_pos out.length with h9 | h9
  · obtain rfl : out = [] := List.eq_nil_of_length_eq_zero h9
    have x7 := box_set2 x4 (.int .i64 0) (.int .i64 0)
    have hb9 := Lib.hid (below_set2 (g := g4) hbw.out (Nat.le_of_eq hgg.out) (.int .i64 0) (.int .i64 0))
    replace hA := Lib.hid hA
    dsimp only
    simp only [List.length_nil]
    clear ho hl h9
    go_wp2_with fail
    clear k0 k1 k2 k3
    obtain ⟨k0, k1⟩ := boxT2 x7
    refine bodyPost_ret (v := .tuple #[.agg #[.int .i64 0, .int .i64 0], .int .i64 21]) (by simp [results, Try.results32, go_sem, k0, k1]) rfl ?_
    exact hull_no hA.out hb9.out
  · obtain ⟨g6, c6, e6, g6B, -, -, -, hc6⟩ := own_form ho h9
    injection e6 with e6 _ e6'
    subst e6 e6'
    obtain ⟨a, ha⟩ : ∃ a, out[0]? = some a := ⟨_, List.getElem?_eq_getElem h9⟩
    obtain ⟨b, hb⟩ : ∃ b, out[out.length - 1]? = some b := ⟨_, List.getElem?_eq_getElem (by omega)⟩
    have d0 : w1.cell? ⟨g6, 0, none⟩ = some (.int .i64 a.1) := by have := hc6 _ _ (spV_get _ _ _ ha).1; simpa using this
    obtain ⟨m, hm⟩ : ∃ m, out.length = m + 1 := ⟨out.length - 1, by omega⟩
    have d1 : w1.cell? ⟨g6, m * 2 + 1, none⟩ = some (.int .i64 b.2) := by have := hc6 _ _ (spV_get _ _ _ hb).2; rw [hm] at this; simpa using this
    have hfin := fun w' (hb' : Below w.heap.size w w') => hull_yes hA ha hb hb'
    replace hfin := Lib.hid hfin
    rw [hm] at hl ⊢
    generalize a.1 = lo at *
    generalize b.2 = hi at *
    clear ho hc6 ha hb hA h9
    replace hm := Lib.hid hm
    have x7 := box_set2 x4 (.int .i64 lo) (.int .i64 hi)
    have hb9 := Lib.hid (below_set2 (g := g4) hbw.out (Nat.le_of_eq hgg.out) (.int .i64 lo) (.int .i64 hi))
    have e1 : IntKind.i64.wrap (((m + 1 : Nat) : Int) - 1) = (m : Int) := by rw [IntKind.wrap_i64]; omega
    have i1 : (0 : Int) ≤ (m : Int) := by omega
    have i2 : (m : Int) < ((m + 1 : Nat) : Int) := by omega
    have i3 : (0 : Int) < ((m + 1 : Nat) : Int) := by omega
    have i4 : (((m + 1 : Nat) : Int) == 0) = false := by rw [beq_eq_false_iff_ne]; omega
    have e1' : IntKind.i64.wrap ((m : Int) + 1 - 1) = (m : Int) := by rw [IntKind.wrap_i64]; omega
    have e1'' : IntKind.i64.wrap (m : Int) = (m : Int) := by rw [IntKind.wrap_i64]; omega
    have i2' : (m : Int) < (m : Int) + 1 := by omega
    have i3' : (0 : Int) < (m : Int) + 1 := by omega
    have s0 : ((w1.setCell ⟨g4, 0, none⟩ (.int .i64 lo)).setCell ⟨g4, 1, none⟩ (.int .i64 hi)).cell? ⟨g6, 0, none⟩ = some (.int .i64 lo) := by
      rw [World.cell?_setCell_other _ _ _ _ (fun e => by injection e with e; have := hg4.out; omega), World.cell?_setCell_other _ _ _ _ (fun e => by injection e with e; have := hg4.out; omega)]; exact d0
    have s1 : ((w1.setCell ⟨g4, 0, none⟩ (.int .i64 lo)).setCell ⟨g4, 1, none⟩ (.int .i64 hi)).cell? ⟨g6, m * 2 + 1, none⟩ = some (.int .i64 hi) := by
      rw [World.cell?_setCell_other _ _ _ _ (fun e => by injection e with e; have := hg4.out; omega), World.cell?_setCell_other _ _ _ _ (fun e => by injection e with e; have := hg4.out; omega)]; exact d1
    dsimp only
    go_wp2_with fail
    go_region_held3 (fun W => W.cell? ⟨g6, 0, none⟩ = some (.int .i64 lo) ∧ W.cell? ⟨g6, m * 2 + 1, none⟩ = some (.int .i64 hi)) (go_keep) (fail)
    go_wp2_with fail
    replace x7 := x7.below (bdrew _)
    clear k0 k1 k2 k3 s0 s1
    obtain ⟨k0, k1⟩ := boxT2 x7
    refine bodyPost_ret (v := .tuple #[.agg #[.int .i64 lo, .int .i64 hi], .int .i64 0]) (by simp [results, Try.results32, go_sem, k0, k1]) rfl ?_
    exact hfin.out _ (bgo hb9.out (bdrew _))
set_option maxRecDepth 100000 in
theorem rqagree_any (B : Nat) (u : Value) (l : List Sp) (f : Int) (w : World) (hu : SeesS w B u l) (hB : B ≤ w.heap.size) (hn : l.length ≤ 64) :
    Calls Try.prog 17 #[u, .int .i64 f] w (QAgreeP l f w) := by
  have x4 := Box.new w 28 [.int .i64 0, .int .i64 0]
  change Box (w.alloc (.cells #[.int .i64 0, .int .i64 0] 28)) _ _ _ at x4
  have hal := balloc w (.cells #[.int .i64 0, .int .i64 0] 28)
  have hu1 := SeesS.below hu (hal.mono hB)
  have hck := rqcheck_any B u l f _ hu1 (Nat.le_trans hB hal.size) hn
  have hag := Lib.hid (fun (h : qchkC l f = 0) W (hb : Below w.heap.size w W) => hull_any B u l (l.length - f) W (SeesS.below hu (hb.mono hB)) (Nat.le_trans hB hb.size) hn (by have := qchk_ok h; omega) (qchk_ok h).1 (by have := qchk_ok h; omega) (by have := qchk_ok h; omega))
  obtain ⟨A, c, rfl, -, -⟩ := hu.mk_
  replace hal := Lib.hid hal
  clear hu hu1
  by_cases hq : qchkC l f = 0
  · have hbd := qchk_ok hq
    obtain ⟨-, b1, b2⟩ := hbd
    have hag2 := Lib.hid (hag.out hq)
    rw [hq] at hck
    replace hck := Lib.hid hck
    replace hq := Lib.hid hq
    have e1 : IntKind.i64.wrap ((l.length : Int) - f) = (l.length : Int) - f := by rw [IntKind.wrap_i64]; omega
    clear hag
    go_enter Try.func17, Try.ntmps17
    go_upto_region 1 with (fail)
    generalize w.alloc (.cells #[.int .i64 0, .int .i64 0] 28) = W0 at *
    generalize hgg : w.heap.size = g4 at x4 ⊢
    replace hgg := Lib.hid hgg
    go_wp2_with fail
    refine hck.out.mono ?_
    rintro e w1 ⟨rfl, hb1⟩
    have hbw := Lib.hid (bgo hal.out hb1)
    have hag3 := Lib.hid (hag2.out w1 hbw.out)
    replace x4 := x4.below hb1
    clear hck hal hag2 hb1
    dsimp only
    go_wp2_with fail
    refine hag3.out.mono ?_
    rintro e w2 ⟨o, ho, rfl, hb2⟩
    replace x4 := x4.below hb2
    replace hbw := Lib.hid (bgo hbw.out hb2)
    clear hag3 hb2 e1
    generalize hlo : (o.getD (0, 0)).1 = lo at *
    generalize hhi : (o.getD (0, 0)).2 = hi at *
    generalize hc9 : (if o.isSome then (0 : Int) else 21) = c9 at *
    replace ho := Lib.hid ho
    replace hlo := Lib.hid hlo
    replace hhi := Lib.hid hhi
    replace hc9 := Lib.hid hc9
    dsimp only
    obtain ⟨k0, k1, k2, k3⟩ := box2_cells x4
    have x7 := box_set2 x4 (.int .i64 lo) (.int .i64 hi)
    have hb9 := Lib.hid (below_set2 (g := g4) hbw.out (Nat.le_of_eq hgg.out) (.int .i64 lo) (.int .i64 hi))
    go_wp2_with fail
    clear k0 k1 k2 k3
    obtain ⟨k0, k1⟩ := boxT2 x7
    refine bodyPost_ret (v := .tuple #[.agg #[.int .i64 lo, .int .i64 hi], .int .i64 c9]) (by simp [results, Try.results17, go_sem, k0, k1]) rfl ?_
    exact qag_ok hq.out ho.out (by rw [hlo.out, hhi.out, hc9.out]) hb9.out
  · replace hck := Lib.hid hck
    obtain ⟨c, hc⟩ : ∃ c, qchkC l f = c := ⟨_, rfl⟩
    rw [hc] at hck hq
    replace hc := Lib.hid hc
    clear hag
    have i0 : (c == 0) = false := by simpa using hq
    have i1 : (c != 0) = true := by simpa using hq
    go_enter Try.func17, Try.ntmps17
    go_upto_region 1 with (fail)
    generalize w.alloc (.cells #[.int .i64 0, .int .i64 0] 28) = W0 at *
    generalize hgg : w.heap.size = g4 at x4 ⊢
    replace hgg := Lib.hid hgg
    go_wp2_with fail
    refine hck.out.mono ?_
    rintro e w1 ⟨rfl, hb1⟩
    have hbw := Lib.hid (bgo hal.out hb1)
    replace x4 := x4.below hb1
    clear hck hal hb1
    dsimp only
    obtain ⟨k0, k1, k2, k3⟩ := box2_cells x4
    have x7 := box_set2 x4 (.int .i64 0) (.int .i64 0)
    have hb9 := Lib.hid (below_set2 (g := g4) hbw.out (Nat.le_of_eq hgg.out) (.int .i64 0) (.int .i64 0))
    go_wp2_with fail
    clear k0 k1 k2 k3
    obtain ⟨k0, k1⟩ := boxT2 x7
    refine bodyPost_ret (v := .tuple #[.agg #[.int .i64 0, .int .i64 0], .int .i64 c]) (by simp [results, Try.results17, go_sem, k0, k1]) rfl ?_
    exact qag_bad hc.out hq hb9.out
end Go.Proofs.Ytiiaghmdajdbbaa

/- Contracts of sweep.Least, quorum.agree, quorum.Agree. Conditions: the spans are seen, at most 64. -/
import Derived.Test.YtiiaghmdajdbbaaQE2
import Derived.Test.YtiiaghmdajdbbaaQF
namespace Go.Proofs.Ytiiaghmdajdbbaa
open Go.RowKit
set_option linter.unusedVariables false
set_option linter.unusedSimpArgs false
attribute [local go_sem ↓] Go.wp_at_zero Go.wp_at_succ
def LeastP2 (l : List Sp) (n : Int) (w : World) (e : Ending) (w' : World) : Prop := ∃ v out, e = .returned (.tuple #[v, .int .i64 0]) ∧ OwnS w' w.heap.size v out ∧ LAll l n out ∧ out.length ≤ 128 ∧ Below w.heap.size w w'
set_option maxRecDepth 100000 in
theorem sleast_any (B : Nat) (u : Value) (l : List Sp) (n : Int) (w : World) (hu : SeesS w B u l) (hB : B ≤ w.heap.size) (hn : l.length ≤ 64) (h0 : 0 < l.length) (hok : okV l = true) (h1 : 1 ≤ n) (h2 : n ≤ 1000) :
    Calls Try.prog 38 #[u, .int .i64 n] w (LeastP2 l n w) := by
  have hck := scheck_any B u l w hu hB hn
  have hle := Lib.hid (fun W (hb : Below w.heap.size w W) => have hW := SeesS.below hu (hb.mono hB); have hBW := Nat.le_trans hB hb.size; least_any B u l n W hW hBW hn hok h1 h2 (pieces_any B u l W hW hBW hn hok (events_any B u l W hW hBW hn h0 hok)))
  obtain ⟨A, c, rfl, -, -⟩ := hu.mk_
  unfold chkC at hck
  rw [hok] at hck
  replace hck := Lib.hid hck
  replace hok := Lib.hid hok
  clear hu
  go_enter Try.func38, Try.ntmps38
  go_wp2_with fail
  refine hck.out.mono ?_
  rintro e w1 ⟨rfl, hb⟩
  have hl1 := Lib.hid (hle.out w1 hb)
  replace hb := Lib.hid hb
  clear hck hle
  dsimp only
  simp only [if_true]
  go_wp2_with fail
  refine hl1.out.mono ?_
  rintro e w2 ⟨v, out, rfl, ho, hA, hl, hb2⟩
  replace ho := Lib.hid ho
  replace hA := Lib.hid hA
  replace hl := Lib.hid hl
  replace hb2 := Lib.hid hb2
  dsimp only
  go_wp2_with fail
  go_returns
  exact ⟨v, out, rfl, row_mono ho.out hb.out.size, hA.out, hl.out, bgo hb.out hb2.out⟩
def AgreeP (l : List Sp) (n : Int) (w : World) (e : Ending) (w' : World) : Prop := ∃ o : Option Sp, IsHull l n o ∧ e = .returned (.tuple #[.agg #[.int .i64 (o.getD (0, 0)).1, .int .i64 (o.getD (0, 0)).2], .bool o.isSome]) ∧ Below w.heap.size w w'
theorem agree_no {l : List Sp} {n : Int} {w w' : World} (h : LAll l n []) (hb : Below w.heap.size w w') : AgreeP l n w (.returned (.tuple #[.agg #[.int .i64 0, .int .i64 0], .bool false])) w' := ⟨none, h.none, rfl, hb⟩
theorem agree_yes {l : List Sp} {n : Int} {w w' : World} {out : List Sp} {a b : Sp} (h : LAll l n out) (ha : out[0]? = some a) (hb' : out[out.length - 1]? = some b) (hb : Below w.heap.size w w') : AgreeP l n w (.returned (.tuple #[.agg #[.int .i64 a.1, .int .i64 b.2], .bool true])) w' := ⟨some (a.1, b.2), h.some ha hb', rfl, hb⟩
set_option maxRecDepth 100000 in
theorem agree_any (B : Nat) (u : Value) (l : List Sp) (n : Int) (w : World) (hu : SeesS w B u l) (hB : B ≤ w.heap.size) (hn : l.length ≤ 64) (h0 : 0 < l.length) (hok : okV l = true) (h1 : 1 ≤ n) (h2 : n ≤ 1000) :
    Calls Try.prog 28 #[u, .int .i64 n] w (AgreeP l n w) := by
  have x4 := Box.new w 28 [.int .i64 0, .int .i64 0]
  change Box (w.alloc (.cells #[.int .i64 0, .int .i64 0] 28)) _ _ _ at x4
  have hal := balloc w (.cells #[.int .i64 0, .int .i64 0] 28)
  have hle := Lib.hid (sleast_any B u l n _ (SeesS.below hu (hal.mono hB)) (Nat.le_trans hB hal.size) hn h0 hok h1 h2)
  obtain ⟨A, c, rfl, -, -⟩ := hu.mk_
  replace hok := Lib.hid hok
  replace hal := Lib.hid hal
  clear hu
  go_enter Try.func28, Try.ntmps28
  go_upto_region 1 with (fail)
  generalize w.alloc (.cells #[.int .i64 0, .int .i64 0] 28) = W0 at *
  generalize hgg : w.heap.size = g4 at x4 ⊢
  replace hgg := Lib.hid hgg
  go_wp2_with fail
  refine hle.out.mono ?_
  rintro e w1 ⟨v, out, rfl, ho, hA, hl, hb1⟩
  obtain ⟨As, cs, rfl, -, -⟩ := (Sees.of_own ho).mk_
  have hbw := Lib.hid (bgo hal.out hb1)
  have hg4 := Lib.hid x4.lt
  replace x4 := x4.below hb1
  clear hle hal
  obtain ⟨k0, k1, k2, k3⟩ := box2_cells x4
  rcases Nat.eq_zero_or_pos out.length with h9 | h9
  · obtain rfl : out = [] := List.eq_nil_of_length_eq_zero h9
    have x7 := box_set2 x4 (.int .i64 0) (.int .i64 0)
    have hb9 := Lib.hid (below_set2 (g := g4) hbw.out (Nat.le_of_eq hgg.out) (.int .i64 0) (.int .i64 0))
    replace hA := Lib.hid hA
    dsimp only
    simp only [List.length_nil]
    clear ho hl h9
    go_wp2_with fail
    clear k0 k1 k2 k3
    obtain ⟨k0, k1⟩ := boxT2 x7
    refine bodyPost_ret (v := .tuple #[.agg #[.int .i64 0, .int .i64 0], .bool false]) (by simp [results, Try.results28, go_sem, k0, k1]) rfl ?_
    exact agree_no hA.out hb9.out
  · obtain ⟨g6, c6, e6, g6B, -, -, -, hc6⟩ := own_form ho h9
    injection e6 with e6 _ e6'
    subst e6 e6'
    obtain ⟨a, ha⟩ : ∃ a, out[0]? = some a := ⟨_, List.getElem?_eq_getElem h9⟩
    obtain ⟨b, hb⟩ : ∃ b, out[out.length - 1]? = some b := ⟨_, List.getElem?_eq_getElem (by omega)⟩
    have d0 : w1.cell? ⟨g6, 0, none⟩ = some (.int .i64 a.1) := by have := hc6 _ _ (spV_get _ _ _ ha).1; simpa using this
    obtain ⟨m, hm⟩ : ∃ m, out.length = m + 1 := ⟨out.length - 1, by omega⟩
    have d1 : w1.cell? ⟨g6, m * 2 + 1, none⟩ = some (.int .i64 b.2) := by have := hc6 _ _ (spV_get _ _ _ hb).2; rw [hm] at this; simpa using this
    have hfin := fun w' (hb' : Below w.heap.size w w') => agree_yes hA ha hb hb'
    replace hfin := Lib.hid hfin
    rw [hm] at hl ⊢
    generalize a.1 = lo at *
    generalize b.2 = hi at *
    clear ho hc6 ha hb hA h9
    replace hm := Lib.hid hm
    have x7 := box_set2 x4 (.int .i64 lo) (.int .i64 hi)
    have hb9 := Lib.hid (below_set2 (g := g4) hbw.out (Nat.le_of_eq hgg.out) (.int .i64 lo) (.int .i64 hi))
    have e1 : IntKind.i64.wrap (((m + 1 : Nat) : Int) - 1) = (m : Int) := by rw [IntKind.wrap_i64]; omega
    have i1 : (0 : Int) ≤ (m : Int) := by omega
    have i2 : (m : Int) < ((m + 1 : Nat) : Int) := by omega
    have i3 : (0 : Int) < ((m + 1 : Nat) : Int) := by omega
    have i4 : (((m + 1 : Nat) : Int) == 0) = false := by rw [beq_eq_false_iff_ne]; omega
    have e1' : IntKind.i64.wrap ((m : Int) + 1 - 1) = (m : Int) := by rw [IntKind.wrap_i64]; omega
    have e1'' : IntKind.i64.wrap (m : Int) = (m : Int) := by rw [IntKind.wrap_i64]; omega
    have i2' : (m : Int) < (m : Int) + 1 := by omega
    have i3' : (0 : Int) < (m : Int) + 1 := by omega
    have s0 : ((w1.setCell ⟨g4, 0, none⟩ (.int .i64 lo)).setCell ⟨g4, 1, none⟩ (.int .i64 hi)).cell? ⟨g6, 0, none⟩ = some (.int .i64 lo) := by
      rw [World.cell?_setCell_other _ _ _ _ (fun e => by injection e with e; have := hg4.out; omega), World.cell?_setCell_other _ _ _ _ (fun e => by injection e with e; have := hg4.out; omega)]; exact d0
    have s1 : ((w1.setCell ⟨g4, 0, none⟩ (.int .i64 lo)).setCell ⟨g4, 1, none⟩ (.int .i64 hi)).cell? ⟨g6, m * 2 + 1, none⟩ = some (.int .i64 hi) := by
      rw [World.cell?_setCell_other _ _ _ _ (fun e => by injection e with e; have := hg4.out; omega), World.cell?_setCell_other _ _ _ _ (fun e => by injection e with e; have := hg4.out; omega)]; exact d1
    dsimp only
    go_wp2_with fail
    go_region_held3 (fun W => W.cell? ⟨g6, 0, none⟩ = some (.int .i64 lo) ∧ W.cell? ⟨g6, m * 2 + 1, none⟩ = some (.int .i64 hi)) (go_keep) (fail)
    go_wp2_with fail
    replace x7 := x7.below (bdrew _)
    clear k0 k1 k2 k3 s0 s1
    obtain ⟨k0, k1⟩ := boxT2 x7
    refine bodyPost_ret (v := .tuple #[.agg #[.int .i64 lo, .int .i64 hi], .bool true]) (by simp [results, Try.results28, go_sem, k0, k1]) rfl ?_
    exact hfin.out _ (bgo hb9.out (bdrew _))
/-- What Agree finds. -/
def AgO (l : List Sp) (f : Int) (o : Option Sp) : Prop := if qchkC l f = 0 then IsHull l (l.length - f) o else o = none
def agC (l : List Sp) (f : Int) (o : Option Sp) : Int := if qchkC l f = 0 then (if o.isSome then 0 else 21) else qchkC l f
def QAgreeP (l : List Sp) (f : Int) (w : World) (e : Ending) (w' : World) : Prop := ∃ o : Option Sp, AgO l f o ∧ e = .returned (.tuple #[.agg #[.int .i64 (o.getD (0, 0)).1, .int .i64 (o.getD (0, 0)).2], .int .i64 (agC l f o)]) ∧ Below w.heap.size w w'
theorem qag_bad {l : List Sp} {f c : Int} {w w' : World} (h : qchkC l f = c) (hc : c ≠ 0) (hb : Below w.heap.size w w') : QAgreeP l f w (.returned (.tuple #[.agg #[.int .i64 0, .int .i64 0], .int .i64 c])) w' := by
  refine ⟨none, ?_, ?_, hb⟩
  · unfold AgO; rw [h, if_neg hc]
  · unfold agC; rw [h, if_neg hc]; rfl
theorem qag_ok {l : List Sp} {f : Int} {o : Option Sp} {w w' : World} {v : Value} (h : qchkC l f = 0) (ho : IsHull l (l.length - f) o) (hv : v = .tuple #[.agg #[.int .i64 (o.getD (0, 0)).1, .int .i64 (o.getD (0, 0)).2], .int .i64 (if o.isSome then 0 else 21)]) (hb : Below w.heap.size w w') : QAgreeP l f w (.returned v) w' := by
  subst hv
  refine ⟨o, ?_, ?_, hb⟩
  · unfold AgO; rw [h, if_pos rfl]; exact ho
  · unfold agC; rw [h, if_pos rfl]
theorem qchk_ok {l : List Sp} {f : Int} (h : qchkC l f = 0) : okV l = true ∧ 0 ≤ f ∧ 2 * f < l.length := by
  unfold qchkC at h
  split at h
  · split at h
    · exact ⟨by assumption, by omega, by omega⟩
    · cases h
  · cases h
set_option maxRecDepth 100000 in
theorem qagree_any (B : Nat) (u : Value) (l : List Sp) (f : Int) (w : World) (hu : SeesS w B u l) (hB : B ≤ w.heap.size) (hn : l.length ≤ 64) :
    Calls Try.prog 10 #[u, .int .i64 f] w (QAgreeP l f w) := by
  have x4 := Box.new w 28 [.int .i64 0, .int .i64 0]
  change Box (w.alloc (.cells #[.int .i64 0, .int .i64 0] 28)) _ _ _ at x4
  have hal := balloc w (.cells #[.int .i64 0, .int .i64 0] 28)
  have hu1 := SeesS.below hu (hal.mono hB)
  have hck := qcheck_any B u l f _ hu1 (Nat.le_trans hB hal.size) hn
  have hag := Lib.hid (fun (h : qchkC l f = 0) W (hb : Below w.heap.size w W) => agree_any B u l (l.length - f) W (SeesS.below hu (hb.mono hB)) (Nat.le_trans hB hb.size) hn (by have := qchk_ok h; omega) (qchk_ok h).1 (by have := qchk_ok h; omega) (by have := qchk_ok h; omega))
  obtain ⟨A, c, rfl, -, -⟩ := hu.mk_
  replace hal := Lib.hid hal
  clear hu hu1
  by_cases hq : qchkC l f = 0
  · have hbd := qchk_ok hq
    obtain ⟨-, b1, b2⟩ := hbd
    have hag2 := Lib.hid (hag.out hq)
    rw [hq] at hck
    replace hck := Lib.hid hck
    replace hq := Lib.hid hq
    have e1 : IntKind.i64.wrap ((l.length : Int) - f) = (l.length : Int) - f := by rw [IntKind.wrap_i64]; omega
    clear hag
    go_enter Try.func10, Try.ntmps10
    go_upto_region 1 with (fail)
    generalize w.alloc (.cells #[.int .i64 0, .int .i64 0] 28) = W0 at *
    generalize hgg : w.heap.size = g4 at x4 ⊢
    replace hgg := Lib.hid hgg
    go_wp2_with fail
    refine hck.out.mono ?_
    rintro e w1 ⟨rfl, hb1⟩
    have hbw := Lib.hid (bgo hal.out hb1)
    have hag3 := Lib.hid (hag2.out w1 hbw.out)
    replace x4 := x4.below hb1
    clear hck hal hag2 hb1
    dsimp only
    go_wp2_with fail
    refine hag3.out.mono ?_
    rintro e w2 ⟨o, ho, rfl, hb2⟩
    replace x4 := x4.below hb2
    have hg4 := Lib.hid x4.lt
    replace hbw := Lib.hid (bgo hbw.out hb2)
    clear hag3 hb2 e1
    cases o with
    | none =>
      replace ho := Lib.hid ho
      have hal := balloc w2 (.cells #[.int .i64 0, .int .i64 0] 28)
      replace x4 := x4.below hal
      replace hbw := Lib.hid (bgo hbw.out hal)
      dsimp only [Option.getD, Option.isSome]
      clear hal hg4
      obtain ⟨k0, k1, k2, k3⟩ := box2_cells x4
      have x7 := box_set2 x4 (.int .i64 0) (.int .i64 0)
      have hb9 := Lib.hid (below_set2 (g := g4) hbw.out (Nat.le_of_eq hgg.out) (.int .i64 0) (.int .i64 0))
      go_wp2_with fail
      clear k0 k1 k2 k3
      obtain ⟨k0, k1⟩ := boxT2 x7
      refine bodyPost_ret (v := .tuple #[.agg #[.int .i64 0, .int .i64 0], .int .i64 21]) (by simp [results, Try.results10, go_sem, k0, k1]) rfl ?_
      exact qag_ok hq.out ho.out rfl hb9.out
    | some s =>
      obtain ⟨lo, hi⟩ := s
      replace ho := Lib.hid ho
      have hal := balloc w2 (.cells #[.int .i64 lo, .int .i64 hi] 28)
      have x7 := Box.new w2 28 [.int .i64 lo, .int .i64 hi]
      change Box (w2.alloc (.cells #[.int .i64 lo, .int .i64 hi] 28)) _ _ _ at x7
      replace x4 := x4.below hal
      replace hbw := Lib.hid (bgo hbw.out hal)
      dsimp only [Option.getD, Option.isSome]
      clear hal hg4
      go_upto_region 5 with (fail)
      generalize w2.alloc (.cells #[.int .i64 lo, .int .i64 hi] 28) = W3 at *
      generalize w2.heap.size = g7 at *
      obtain ⟨y0, y1⟩ := boxT2 x7
      obtain ⟨k0, k1, k2, k3⟩ := box2_cells x4
      have x9 := box_set2 x4 (.int .i64 lo) (.int .i64 hi)
      have hb9 := Lib.hid (below_set2 (g := g4) hbw.out (Nat.le_of_eq hgg.out) (.int .i64 lo) (.int .i64 hi))
      go_wp2_with fail
      clear k0 k1 k2 k3 y0 y1
      obtain ⟨k0, k1⟩ := boxT2 x9
      refine bodyPost_ret (v := .tuple #[.agg #[.int .i64 lo, .int .i64 hi], .int .i64 0]) (by simp [results, Try.results10, go_sem, k0, k1]) rfl ?_
      exact qag_ok hq.out ho.out rfl hb9.out
  · replace hck := Lib.hid hck
    obtain ⟨c, hc⟩ : ∃ c, qchkC l f = c := ⟨_, rfl⟩
    rw [hc] at hck hq
    replace hc := Lib.hid hc
    clear hag
    have i0 : (c == 0) = false := by simpa using hq
    have i1 : (c != 0) = true := by simpa using hq
    go_enter Try.func10, Try.ntmps10
    go_upto_region 1 with (fail)
    generalize w.alloc (.cells #[.int .i64 0, .int .i64 0] 28) = W0 at *
    generalize hgg : w.heap.size = g4 at x4 ⊢
    replace hgg := Lib.hid hgg
    go_wp2_with fail
    refine hck.out.mono ?_
    rintro e w1 ⟨rfl, hb1⟩
    have hbw := Lib.hid (bgo hal.out hb1)
    replace x4 := x4.below hb1
    clear hck hal hb1
    dsimp only
    obtain ⟨k0, k1, k2, k3⟩ := box2_cells x4
    have x7 := box_set2 x4 (.int .i64 0) (.int .i64 0)
    have hb9 := Lib.hid (below_set2 (g := g4) hbw.out (Nat.le_of_eq hgg.out) (.int .i64 0) (.int .i64 0))
    go_wp2_with fail
    clear k0 k1 k2 k3
    obtain ⟨k0, k1⟩ := boxT2 x7
    refine bodyPost_ret (v := .tuple #[.agg #[.int .i64 0, .int .i64 0], .int .i64 c]) (by simp [results, Try.results10, go_sem, k0, k1]) rfl ?_
    exact qag_bad hc.out hq hb9.out
end Go.Proofs.Ytiiaghmdajdbbaa

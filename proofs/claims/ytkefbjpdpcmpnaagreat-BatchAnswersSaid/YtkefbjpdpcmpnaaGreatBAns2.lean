/- The walk of the statement BatchAnswers: true. No conditions. -/
import Derived.Test.YtkefbjpdpcmpnaaGreatC26
import Derived.Test.YtkefbjpdpcmpnaaGreatA3
import Derived.Test.YtkefbjpdpcmpnaaGreatC28
import Derived.BigQuiet
namespace Go.Proofs.YtkefbjpdpcmpnaaGreat
open Go Go.RowKit
set_option linter.unusedVariables false
set_option linter.unusedSimpArgs false
attribute [local go_sem ↓] Go.wp_at_zero Go.wp_at_succ
theorem OwnL.elt {w : World} {base g n c k : Nat} {ls : List Bs} (h : OwnL w base (.slice (some ⟨g, 0, none⟩) n c) ls) (hk : k < ls.length) : ∃ A' c', w.cell? ⟨g, k, none⟩ = some (.slice A' (ls.getD k []).length c') ∧ (ls.getD k []).length ≤ c' ∧ c' ≤ maxLen ∧ Elt w (.slice (some ⟨g, 0, none⟩) n c) (.slice A' (ls.getD k []).length c') (ls.getD k []) := by
  obtain ⟨vs, h1, h2⟩ := h
  have hn : n = ls.length := by
    obtain ⟨_, A', c', e, _⟩ := Sees.of_own h1
    injection e
  subst hn
  obtain ⟨x, e1, e2⟩ := h2 k hk
  obtain ⟨A', c', rfl, q1, q2⟩ := e2.1.mk_
  exact ⟨A', c', (h1.cellAt k (by omega)).trans e1, q1, q2, e2⟩
/-- What is known while the arguments of Answer are made: the nonces, the key, the span. -/
theorem answer_len {sd : Bs} {h n : Int} {ns : List Bs} {lo hi : Int} : (answerR sd h n ns lo hi).2.1.length ≤ ns.length := by
  unfold answerR
  split
  · split
    · simp [ansL_len]
    · simp
  · simp
theorem sees_oneB {W : World} {g j : Nat} {T : TypeId} {v u : Value} {l : Bs} {xs : List Value} (x : Box W g T xs) (hn : NoByte xs) (hs : SeesB W W.heap.size u l) : SeesB (W.setCell ⟨g, j, none⟩ v) (W.setCell ⟨g, j, none⟩ v).heap.size u l := (hs.poke x hn).more (by simp [World.setCell])
theorem box2_cellsB {W : World} {g : Nat} {T : TypeId} {a b : Value} (h : Box W g T [a, b]) : W.cell? ⟨g, 0, none⟩ = some a ∧ W.cell? ⟨g, 1, none⟩ = some b ∧ W.frozen? ⟨g, 0, none⟩ = false ∧ W.frozen? ⟨g, 1, none⟩ = false := ⟨h.cell 0, h.cell 1, h.frozen 0, h.frozen 1⟩
theorem noBL2 {a b : Value} (ha : NoB a) (hb : NoB b) : NoByte [a, b] := by
  intro x hx n e
  simp only [List.mem_cons, List.not_mem_nil, or_false] at hx
  rcases hx with rfl | rfl
  · exact ha n e
  · exact hb n e
def BaR (w : World) (A17 : Option Addr) (m cN g15 g10 : Nat) (A1 : Option Addr) (c1 : Nat) (sd : Bs) (H N : Int) (v17 : Value) (W : World) : Prop :=
  ∃ ns lo hi, v17 = .slice A17 m cN ∧ ns.length = m ∧ SeesL W W.heap.size (.slice A17 m cN) ns ∧ Box W g15 39 [.slice A1 sd.length c1, .int .i64 H, .int .i64 N] ∧ SeesB W W.heap.size (.slice A1 sd.length c1) sd ∧ Box W g10 27 [.int .i64 lo, .int .i64 hi] ∧ Below w.heap.size w W
set_option maxRecDepth 100000 in
set_option maxHeartbeats 8000000 in
theorem banswers_law (v : Int) (wf0 : (Lit.int .i64 v).wf = true) (n : Int) (wf1 : (Lit.int .i64 n).wf = true) (nx : Int) (wf2 : (Lit.int .i64 nx).wf = true) (s0 s1 : Int) (ws0 : (Lit.int .i64 s0).wf = true) (ws1 : (Lit.int .i64 s1).wf = true) (lo : Int) (wlo : (Lit.int .u16 lo).wf = true) (hi : Int) (whi : (Lit.int .u16 hi).wf = true) (odd : Bool) (w : World) :
    Calls Tryz.prog 5 #[.int .i64 v, .int .i64 n, .int .i64 nx, .agg #[.int .i64 s0, .int .i64 s1], .int .u16 lo, .int .u16 hi, .bool odd] w fun e w' => e = .returned (.bool true) ∧ Below w.heap.size w w' := by
  have h2 := bounds_u16 wlo
  have h3 := bounds_u16 whi
  clear wf0 wf1 wf2 ws0 ws1 wlo whi
  have hks := Lib.hid (fun x y W => ksigner_any x y W)
  have hwi := Lib.hid (fun (v m : Int) (h1 : 1 ≤ m) (h2 : m ≤ 4294967296) W => kwithin_any v m h1 h2 W)
  have hkn := Lib.hid (fun W => known_any W)
  have hal := Lib.hid (balloc w (.cells #[.int .i64 s0, .int .i64 s1] 27))
  have x10 := Box.new w 27 [.int .i64 s0, .int .i64 s1]
  change Box (w.alloc (.cells #[.int .i64 s0, .int .i64 s1] 27)) _ _ _ at x10
  obtain ⟨q, hq, hq2⟩ := kmod_nat n 7 (by omega)
  have hrn := Lib.hid (fun x W => krandoms_any x 32 q W (by omega) (by omega))
  have hq7 : (q : Int) < 7 := by omega
  replace hq := Lib.hid hq
  clear hq2
  go_enter Tryz.func5, Tryz.ntmps5
  go_upto_region 1 with (fail)
  generalize w.alloc (.cells #[.int .i64 s0, .int .i64 s1] 27) = W0 at *
  generalize hgg : w.heap.size = g10 at x10 ⊢
  have hg10 : Hid (w.heap.size ≤ g10) := by show _ ≤ _; omega
  replace hgg := Lib.hid hgg
  go_wp2_with fail
  refine (hks.out _ _ _).mono ?_
  rintro e w1 ⟨v1, v2, sd, pk, rfl, s1', hsd, -, -, -, hb1⟩
  obtain ⟨A1, c1, rfl, -, -⟩ := s1'.mk_
  generalize nx % 2 = H at *
  have hal1 := balloc w1 (.cells #[.slice A1 sd.length c1, .int .i64 H, .int .i64 0] 39)
  have x15 := Box.new w1 39 [.slice A1 sd.length c1, .int .i64 H, .int .i64 0]
  change Box (w1.alloc (.cells #[.slice A1 sd.length c1, .int .i64 H, .int .i64 0] 39)) _ _ _ at x15
  have hg15 : Hid (w.heap.size ≤ w1.heap.size) := (bgo hal.out hb1).size
  have hlt10 := Lib.hid (x10.below hb1).lt
  have hb11 := bgo hb1 hal1
  replace x10 := x10.below hb11
  have hbw := Lib.hid (bgo hal.out hb11)
  replace s1' := seesB_of s1' (Nat.le_refl _) hal1
  replace hsd := Lib.hid hsd
  clear hb1 hal hal1 hb11 hks
  dsimp only
  go_upto_region 2 with (fail)
  generalize w1.alloc (.cells #[.slice A1 sd.length c1, .int .i64 H, .int .i64 0] 39) = W1 at *
  generalize w1.heap.size = g15 at *
  obtain ⟨e0, e1, e2, f0, f1, f2⟩ := box3_cells x15
  go_wp2_with fail
  refine (hwi.out nx 4 (by omega) (by omega) W1).mono ?_
  rintro e w2 ⟨rfl, hw2⟩
  obtain rfl := hw2.symm
  generalize nx % 4 = N at *
  dsimp only
  go_upto_region 3 with (fail)
  have y15 := x15.set 2 (.int .i64 N)
  simp only [List.set_cons_zero, List.set_cons_succ] at y15
  have y10 := x10.other (j := 2) (v := .int .i64 N) (show g10 ≠ g15 by have := hlt10.out; omega)
  have sy := sees_oneB (j := 2) (v := .int .i64 N) x15 (noBL3' (NoB.s A1 sd.length c1) (NoB.i H) (NoB.i 0)) s1'
  have hby := hbw.out.setCell (p := ⟨g15, 2, none⟩) hg15.out (.int .i64 N)
  clear e0 e1 e2 f0 f1 f2 x15 x10 s1' hbw
  generalize W1.setCell ⟨g15, 2, none⟩ (.int .i64 N) = W2 at *
  have hbw := Lib.hid hby
  clear hby
  have hwq := hwi.out n 7 (by omega) (by omega) W2
  rw [hq.out] at hwq
  replace hwq := Lib.hid hwq
  go_wp2_with fail
  refine (hwi.out v 100 (by omega) (by omega) W2).mono ?_
  rintro e w3 ⟨rfl, hw3⟩
  obtain rfl := hw3.symm
  dsimp only
  go_wp2_with fail
  refine hwq.out.mono ?_
  rintro e w3 ⟨rfl, hw3⟩
  obtain rfl := hw3.symm
  clear hwq
  dsimp only
  go_wp2_with fail
  refine (hrn.out _ _).mono ?_
  rintro e w4 ⟨v4, rfl, o4, hb4⟩
  have hl := randsK_len (v % 100) 32 q
  have h32 := Lib.hid (randsK_each (v % 100) 32 q (by omega))
  generalize randsK (v % 100) 32 q = ns at *
  obtain ⟨A17, c17, rfl⟩ := o4.shape
  have hw4 := Lib.hid (fun k hk => (o4.lt k hk).1)
  have z15 := Lib.hid y15.lt
  have z10 := Lib.hid y10.lt
  rw [hl] at o4 hw4 ⊢
  have o4s := o4.sees
  replace y15 := Lib.hid y15
  replace y10 := Lib.hid y10
  replace sy := Lib.hid sy
  replace hb4 := Lib.hid hb4
  replace o4 := Lib.hid o4
  replace o4s := Lib.hid o4s
  replace hl := Lib.hid hl
  dsimp only
  obtain ⟨Bt, hBt⟩ : ∃ Bt, Bt = (odd && decide (1 < q)) := ⟨_, rfl⟩
  replace hBt := Lib.hid hBt
  go_upto_region 4 with (fail)
  go_cut [43] (fun v W => v = .bool Bt ∧ W = w4)
  case first =>
    cases odd with
    | false =>
      go_wp2_with fail
      go_meet
      exact ⟨by rw [hBt.out]; rfl, rfl⟩
    | true =>
      by_cases hq1 : 1 < q
      · have i1 : (1 : Int) < (q : Int) := by omega
        go_wp2_with fail
        go_meet
        exact ⟨by rw [hBt.out, decide_eq_true hq1]; rfl, rfl⟩
      · have i1 : ¬ (1 : Int) < (q : Int) := by omega
        go_wp2_with fail
        go_meet
        exact ⟨by rw [hBt.out, decide_eq_false hq1]; rfl, rfl⟩
  case rest =>
  obtain ⟨rfl, rfl⟩ := hcut
  obtain ⟨w4, rfl⟩ : ∃ w4 : World, w4 = wc := ⟨_, rfl⟩
  go_upto_if 43 with (fail)
  go_cut [17] (fun v17 W => BaR w A17 q c17 g15 g10 A1 c1 sd H N v17 W)
  case first =>
    cases Bt with
    | false =>
      go_wp2_with fail
      go_meet
      exact ⟨ns, s0, s1, rfl, hl.out, o4s.out, y15.out.below hb4.out, seesB_of sy.out (Nat.le_refl _) hb4.out, y10.out.below hb4.out, bgo hbw.out hb4.out⟩
    | true =>
        have hq1 : 1 < q := by
          have h9 := hBt.out
          cases odd <;> simp at h9
          exact h9
        obtain ⟨gN, rfl⟩ := o4.out.at_ (by have := hl.out; omega)
        obtain ⟨A', c', z1, p1, p2, el⟩ := o4.out.elt (k := 1) (by have := hl.out; omega)
        obtain ⟨-, zf⟩ := o4.out.cell (k := 1) (by have := hl.out; omega)
        have hd : (ns.getD 1 []).length = 32 := by
          have h9 : 1 < ns.length := by have := hl.out; omega
          have : ns.getD 1 [] = ns[1] := by rw [List.getD_eq_getElem?_getD, List.getElem?_eq_getElem h9]; rfl
          rw [this]
          exact h32.out _ (List.getElem_mem h9)
        generalize ns.getD 1 [] = d at *
        have els : Elt w4 (.slice (some ⟨gN, 0, none⟩) q c17) (.slice A' 31 c') (d.take 31) := by
          refine ⟨?_, fun _ k hk => el.2 (by intro e; rw [e] at hd; simp at hd) k (by cases A' with | none => cases hk | some a => cases hk; rfl)⟩
          have h9 := el.1.take (m := 31) (c' := c') (by omega) (by omega) p2
          exact h9
        obtain ⟨os, bs⟩ := o4.out.set (k := 1) (by have := hl.out; omega) els
        have i1 : (1 : Int) < (q : Int) := by omega
        have i2 : (31 : Int) ≤ (c' : Int) := by omega
        have hbX := Lib.hid (hb4.out.trans bs)
        replace os := Lib.hid os.sees
        rw [hd] at z1
        replace hd := Lib.hid hd
        clear el els bs p1
        go_wp2_with fail
        go_meet
        exact ⟨ns.set 1 (d.take 31), s0, s1, rfl, by rw [List.length_set]; exact hl.out, os.out, y15.out.below hbX.out, seesB_of sy.out (Nat.le_refl _) hbX.out, y10.out.below hbX.out, bgo hbw.out hbX.out⟩
  case rest =>
    obtain ⟨ns', lo', hi', rfl, hl', sn, x15, ssd, x10, hbw'⟩ := hcut
    obtain ⟨w5, rfl⟩ : ∃ w5 : World, w5 = wc := ⟨_, rfl⟩
    clear y15 y10 sy hb4 o4 o4s h32 hbw hl hrn
    obtain ⟨p, hp, hp2⟩ := kmod_nat n 3 (by omega)
    have hwp := hwi.out n 3 (by omega) (by omega) w5
    rw [hp] at hwp
    replace hwp := Lib.hid hwp
    replace hp := Lib.hid hp
    replace sn := Lib.hid sn
    replace ssd := Lib.hid ssd
    replace x15 := Lib.hid x15
    replace x10 := Lib.hid x10
    replace hbw := Lib.hid hbw'
    replace hl' := Lib.hid hl'
    clear hbw' hwi
    go_wp2_with fail
    refine hwp.out.mono ?_
    rintro e w6 ⟨rfl, hw6⟩
    obtain rfl := hw6.symm
    clear hwp
    dsimp only
    go_upto_if 52 with (fail)
    go_cut [17] (fun v17 W => BaR w A17 q c17 g15 g10 A1 c1 sd H N v17 W)
    case first =>
      by_cases hp0 : 0 < p
      · have i1 : (0 : Int) < (p : Int) := by omega
        have a1 := h2.1
        have a2 := h2.2
        have a3 := h3.1
        have a4 := h3.2
        obtain ⟨y0, y1, f0, f1⟩ := box2_cellsB x10.out
        go_wp2_with fail
        go_meet
        have hno : NoByte [Value.int .i64 lo', .int .i64 hi'] := noBL2 (NoB.i _) (NoB.i _)
        have hgr := ggo (setCell_grown w5 g10 0 (.int .i64 lo)) (setCell_grown _ g10 1 (.int .i64 (lo + hi)))
        have hne : g15 ≠ g10 := by
          intro e
          have h8 := x15.out
          rw [e] at h8
          have h9 := h8.symm.trans x10.out
          simp at h9
        have hz : (((w5.setCell ⟨g10, 0, none⟩ (.int .i64 lo)).setCell ⟨g10, 1, none⟩ (.int .i64 (lo + hi))).heap.size) = w5.heap.size := by simp [World.setCell]
        refine ⟨ns', lo, lo + hi, rfl, hl'.out, ?_, (x15.out.other hne).other hne, ?_, box_set2 x10.out _ _, below_set2 hbw.out hg10.out _ _⟩
        · rw [hz]
          exact sn.out.over (Nat.le_refl _) (fun k hk e => by have := hw4.out k hk; have := z10.out; omega) x10.out hno hgr
        · rw [hz]
          exact ssd.out.over (Nat.le_refl _) x10.out hno hgr
      · have i1 : ¬ (0 : Int) < (p : Int) := by omega
        go_wp2_with fail
        go_meet
        exact ⟨ns', lo', hi', rfl, hl'.out, sn.out, x15.out, ssd.out, x10.out, hbw.out⟩
    case rest =>
      clear x10 x15 sn ssd hbw hl' hp hp2
      obtain ⟨ns2, lo2, hi2, rfl, hl2, sn, x15, ssd, x10, hbw⟩ := hcut
      obtain ⟨w7, rfl⟩ : ∃ w7 : World, w7 = wc := ⟨_, rfl⟩
      have hA := fun (W : World) (hW : Below w7.heap.size w7 W) => answer_any W.heap.size _ _ sd H N ns2 lo2 hi2 W (seesB_of ssd (Nat.le_refl _) hW) (seesL_of sn (Nat.le_refl _) hW) (Nat.le_refl _) (by omega)
      have hB := fun (W : World) (hW : Below w7.heap.size w7 W) => ranswer_any W.heap.size _ _ sd H N ns2 lo2 hi2 W (seesB_of ssd (Nat.le_refl _) hW) (seesL_of sn (Nat.le_refl _) hW) (Nat.le_refl _) (by omega)
      have hyl := answer_len (sd := sd) (h := H) (n := N) (ns := ns2) (lo := lo2) (hi := hi2)
      unfold AnswerP at hA hB
      generalize answerR sd H N ns2 lo2 hi2 = R at *
      obtain ⟨⟨rs, rh, rn⟩, ys, rc⟩ := R
      dsimp only at hA hB hyl
      replace hA := Lib.hid (hA w7 (Below.refl _ _))
      replace hB := Lib.hid hB
      replace hyl := Lib.hid (show ys.length ≤ 1048576 by omega)
      replace hl2 := Lib.hid hl2
      obtain ⟨e0, e1, e2, -, -, -⟩ := box3_cells x15
      obtain ⟨e3, e4⟩ := boxT2 x10
      replace hbw := Lib.hid hbw
      go_wp2_with fail
      refine hA.out.mono ?_
      rintro e w8 ⟨v8, v9, rfl, el8, o9, hb8⟩
      obtain ⟨A8, c8, rfl, -, -⟩ := el8.1.mk_
      obtain ⟨A9, c9, rfl⟩ := o9.shape
      have hal8 := balloc w8 (.cells #[.slice A8 rs.length c8, .int .i64 rh, .int .i64 rn] 39)
      have x18 := Box.new w8 39 [.slice A8 rs.length c8, .int .i64 rh, .int .i64 rn]
      change Box (w8.alloc (.cells #[.slice A8 rs.length c8, .int .i64 rh, .int .i64 rn] 39)) _ _ _ at x18
      have hb78 := bgo hb8 hal8
      replace x15 := x15.below hb78
      replace x10 := x10.below hb78
      have t8 := Lib.hid (seesB_of el8.1 (Nat.le_refl _) hal8)
      have t9 := Lib.hid (seesL_of o9.sees (Nat.le_refl _) hal8)
      replace hbw := Lib.hid (bgo hbw.out hb78)
      have hB8 := Lib.hid (hB.out _ hb78)
      clear e0 e1 e2 e3 e4 hA hB el8 o9 hb8 hal8 hb78 sn ssd
      dsimp only
      go_upto_region 9 with (fail)
      generalize w8.alloc (.cells #[.slice A8 rs.length c8, .int .i64 rh, .int .i64 rn] 39) = W8 at *
      generalize w8.heap.size = g18 at *
      obtain ⟨e0, e1, e2, -, -, -⟩ := box3_cells x15
      obtain ⟨e3, e4⟩ := boxT2 x10
      go_wp2_with fail
      refine hB8.out.mono ?_
      rintro e w9 ⟨v10, v11, rfl, el10, o11, hb9⟩
      obtain ⟨A10, c10, rfl, -, -⟩ := el10.1.mk_
      obtain ⟨A11, c11, rfl⟩ := o11.shape
      have hal9 := balloc w9 (.cells #[.slice A10 rs.length c10, .int .i64 rh, .int .i64 rn] 39)
      have x21 := Box.new w9 39 [.slice A10 rs.length c10, .int .i64 rh, .int .i64 rn]
      change Box (w9.alloc (.cells #[.slice A10 rs.length c10, .int .i64 rh, .int .i64 rn] 39)) _ _ _ at x21
      have hb89 := bgo hb9 hal9
      replace x18 := x18.below hb89
      replace t8 := Lib.hid (seesB_of t8.out (Nat.le_refl _) hb89)
      replace t9 := Lib.hid (seesL_of t9.out (Nat.le_refl _) hb89)
      have t10 := Lib.hid (seesB_of el10.1 (Nat.le_refl _) hal9)
      have t11 := Lib.hid (seesL_of o11.sees (Nat.le_refl _) hal9)
      replace hbw := Lib.hid (bgo hbw.out hb89)
      clear e0 e1 e2 e3 e4 hB8 el10 o11 hb9 hal9 hb89 x15 x10
      dsimp only
      go_upto_region 10 with (fail)
      generalize w9.alloc (.cells #[.slice A10 rs.length c10, .int .i64 rh, .int .i64 rn] 39) = W9 at *
      generalize w9.heap.size = g21 at *
      go_wp2_with fail
      refine (hkn.out _).mono ?_
      rintro e w10 ⟨rfl, hb10⟩
      replace x18 := x18.below hb10
      replace x21 := x21.below hb10
      have hss := Lib.hid (rsigsame_any _ _ rs rh rn w10 (seesB_of t8.out (Nat.le_refl _) hb10) (seesB_of t10.out (Nat.le_refl _) hb10))
      replace t9 := Lib.hid (seesL_of t9.out (Nat.le_refl _) hb10)
      replace t11 := Lib.hid (seesL_of t11.out (Nat.le_refl _) hb10)
      replace hbw := Lib.hid (bgo hbw.out hb10)
      clear t8 t10 hb10
      obtain ⟨e0, e1, e2, -, -, -⟩ := box3_cells x18
      obtain ⟨e3, e4, e5, -, -, -⟩ := box3_cells x21
      dsimp only
      go_wp2_with fail
      refine hss.out.mono ?_
      rintro e w11 ⟨rfl, hb11⟩
      have hsl := Lib.hid (rsamel_eq _ _ ys w11 (seesL_of t9.out (Nat.le_refl _) hb11) (seesL_of t11.out (Nat.le_refl _) hb11) hyl.out)
      replace hbw := Lib.hid (bgo hbw.out hb11)
      clear hss t9 t11 hb11 e0 e1 e2 e3 e4 e5 x18 x21
      dsimp only
      go_wp2_with fail
      refine hsl.out.mono ?_
      rintro e w12 ⟨rfl, hb12⟩
      replace hbw := Lib.hid (bgo hbw.out hb12)
      dsimp only
      go_wp2_with fail
      go_ret
      exact ⟨rfl, hbw.out⟩
end Go.Proofs.YtkefbjpdpcmpnaaGreat

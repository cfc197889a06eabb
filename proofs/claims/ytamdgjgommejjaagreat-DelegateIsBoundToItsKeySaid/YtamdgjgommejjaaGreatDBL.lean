/- The walk of the statement DelegateIsBoundToItsKey: true. No conditions. -/
import Derived.Test.YtamdgjgommejjaaGreatDBG
import Derived.Test.YtamdgjgommejjaaGreatDBP
import Derived.Test.YtamdgjgommejjaaGreatHeldJ
import Derived.Deep.CutBlock
import Derived.Outline
import Derived.BigQuiet
namespace Go.Proofs.YtamdgjgommejjaaGreat
open Go Go.RowKit
set_option linter.unusedVariables false
set_option linter.unusedSimpArgs false
attribute [local go_sem ↓] Go.wp_at_zero Go.wp_at_succ
/-- A row of lists stays where another block is written that holds no list of bytes. -/
theorem SeesL.overZ {w W : World} {g : Nat} {T : TypeId} {xs : List Value} {v : Value} {l : Bs} {ls : List Bs} (h : SeesL w w.heap.size v (l :: ls)) (hx : Box w g T xs) (hno : NoByte xs) (hz : ∀ x ∈ xs, ∀ A n c, x = Value.slice A n c → n = 0) (h1 : l ≠ []) (hg : w.grownBy W (some g)) : SeesL W W.heap.size v (l :: ls) := by
  obtain ⟨A, c, rfl, -, -⟩ := h.mk_
  obtain ⟨b, o, rfl, -, hc⟩ := h.at_ (by simp)
  obtain ⟨A', c', hcell, -⟩ := hc 0 (by simp)
  have hne : b ≠ g := by
    intro e
    subst e
    rw [Nat.add_zero, hx.cell] at hcell
    have hm := List.mem_of_getElem? hcell
    have := hz _ hm _ _ _ rfl
    exact h1 (List.length_eq_zero_iff.1 this)
  obtain ⟨vs, hs, hv⟩ := h
  obtain ⟨q0, A2, c2, e, q1, q2, q3⟩ := hs
  refine ⟨vs, ⟨q0, A2, c2, e, q1, q2, fun hn => ?_⟩, fun k hk => ?_⟩
  · obtain ⟨b2, o2, e2, hb2, hcc⟩ := q3 hn
    refine ⟨b2, o2, e2, Nat.lt_of_lt_of_le hb2 hg.size, fun j u hj => ?_⟩
    have e3 : b2 = b := by
      rw [e2] at e
      injection e with e _ _
      injection e with e
      injection e with e _ _
      exact e.symm
    rw [World.cell?_of_block (hg.block b2 hb2 (fun e => by injection e with e; exact hne (e3 ▸ e)))]
    exact hcc j u hj
  · obtain ⟨y, y1, y2⟩ := hv k hk
    exact ⟨y, y1, (y2.over (Nat.le_refl _) hx hno hg).more hg.size⟩
theorem zeroZ7 : ∀ x ∈ ([.slice none 0 0, .int .i64 0, .int .i64 0, .slice none 0 0, .int .i64 0, .int .i64 0, .slice none 0 0] : List Value), ∀ A n c, x = Value.slice A n c → n = 0 := by
  intro x hx A n c e
  simp only [List.mem_cons, List.not_mem_nil, or_false] at hx
  rcases hx with rfl | rfl | rfl | rfl | rfl | rfl | rfl <;> first | (cases e; done) | (cases e; rfl)
theorem kmod_natD (v m : Int) (hm : 1 ≤ m) : ∃ n : Nat, v % m = (n : Int) ∧ (n : Int) < m := by
  have h0 := Int.emod_nonneg v (show m ≠ 0 by omega)
  have h1 := Int.emod_lt_of_pos v (show 0 < m by omega)
  obtain ⟨n, hn⟩ := Int.eq_ofNat_of_zero_le h0
  exact ⟨n, hn, by omega⟩
set_option maxRecDepth 100000 in
set_option maxHeartbeats 4000000 in
theorem db_law (v : Int) (wf0 : (Lit.int .i64 v).wf = true) (ww : Int) (wf1 : (Lit.int .i64 ww).wf = true) (w : World) :
    Calls Tryz.prog 3 #[.int .i64 v, .int .i64 ww] w fun e w' => e = .returned (.bool true) ∧ Below w.heap.size w w' := by
  clear wf0 wf1
  have hwi := Lib.hid (fun (v m : Int) (h1 : 1 ≤ m) (h2 : m ≤ 4294967296) W => kwithin_any v m h1 h2 W)
  have hkn := Lib.hid (fun W => dknown_any W)
  have hkr := Lib.hid (fun x W => (show Calls Tryz.prog 7 #[.int .i64 x, .int .i64 32] W (Shows (randK x 32) W) from krandom_any x 32 (by omega) W))
  obtain ⟨q, hq, hq2⟩ := kmod_natD v 500 (by omega)
  have hwq := fun W => hwi.out v 500 (by omega) (by omega) W
  rw [hq] at hwq
  obtain ⟨k, hk, hk2⟩ := kmod_natD ww 50 (by omega)
  have hwk := fun W => hwi.out ww 50 (by omega) (by omega) W
  rw [hk] at hwk
  have m1 : IntKind.i64.wrap ((q : Int) + 501) = (q : Int) + 501 := by rw [IntKind.wrap_i64]; omega
  have m2 : IntKind.i64.wrap ((q : Int) + 501 + (k : Int)) = ((q + 501 + k : Nat) : Int) := by rw [IntKind.wrap_i64]; omega
  have m3 : IntKind.i64.wrap ((q : Int) + 1) = (q : Int) + 1 := by rw [IntKind.wrap_i64]; omega
  have hgt := fun W => kgrantedW_any (q : Int) 0 0 99 W (four_vS (by omega)) (by omega) (by omega)
  have hsg := fun W => ksignerW_any ((q + 501 + k : Nat) : Int) 0 W
  have hb := Lib.hid (⟨by omega, by omega⟩ : q < 500 ∧ k < 50)
  replace hwq := Lib.hid hwq
  replace hwk := Lib.hid hwk
  replace hgt := Lib.hid hgt
  replace hsg := Lib.hid hsg
  clear hq hq2 hk hk2 hwi
  go_enter Tryz.func3, Tryz.ntmps3
  go_wp2_with fail
  refine (hwq.out w).mono ?_
  rintro e w1 ⟨rfl, hw1⟩
  obtain rfl := hw1.symm
  clear hw1
  dsimp only
  go_wp2_with fail
  refine (hgt.out _).mono ?_
  rintro e w1 ⟨v1, v2, v3, v4, sd2, pk2, sd1, pk1, rfl, r1, l2, hpk2, hp2l, r2, r3, l1, hpk1, hp1l, r4, hb1, hs1, hs2⟩
  rw [show (0 : Int) % 2 = 0 from rfl] at *
  obtain ⟨A1, c1, rfl, -, -⟩ := r1.mk_
  obtain ⟨A2, c2, rfl, -, -⟩ := r2.mk_
  obtain ⟨A3, c3, rfl, -, -⟩ := r3.mk_
  obtain ⟨A4, c4, rfl, -, -⟩ := r4.mk_
  obtain ⟨S, hS⟩ : ∃ S, S = sigG sd1 0 0 (tGrant ++ pk2 ++ spanB 0 99) := ⟨_, rfl⟩
  rw [← hS] at r3 ⊢
  have hSl : Hid (S.length = 565) := by show _ = _; rw [hS, sigG_len]
  rw [hpk2] at hS
  obtain ⟨nA, hnA⟩ : ∃ n, n = randK (q : Int) 32 := ⟨_, rfl⟩
  obtain ⟨nB, hnB⟩ : ∃ n, n = randK ((q : Int) + 1) 32 := ⟨_, rfl⟩
  obtain ⟨U, hU⟩ : ∃ U, U = pubG (randK (((q + 501 + k : Nat) : Int) + 100) 32) 0 := ⟨_, rfl⟩
  obtain ⟨y0, y1, hR, hy0, hy1, hC0, hC0l, hC0h, hC1, hC2, hC3⟩ := bound_plain q k hb.out.1 hb.out.2 sd1 sd2 nA nB U S hs1 hs2 hnA hnB hU hS
  rw [← hpk1] at hC0 hC0l hC0h hC2 hC3
  rw [← hpk2] at hR
  have hUl : Hid (U.length = 32) := by
    have h : pubG (randK (((q + 501 + k : Nat) : Int) + 100) 32) 0 = keyG (randK (((q + 501 + k : Nat) : Int) + 100) 32) 0 := pubG_key _ 0 (randK_len _ 32 (Nat.le_refl _)) (by omega)
    show _ = _
    rw [hU, h]
    exact keyG_len _ _
  have hnAl : Hid (nA.length = 32) := by show _ = _; rw [hnA]; exact randK_len _ 32 (Nat.le_refl _)
  have hy0n : Hid (y0 ≠ []) := fun e => by
    rw [e] at hC0
    unfold dverC at hC0
    rw [if_neg (by decide)] at hC0
    exact absurd hC0 (by decide)
  clear hS hs1 hs2 hpk1 hpk2
  replace hy0 := Lib.hid hy0
  replace hy1 := Lib.hid hy1
  replace hR := Lib.hid hR
  replace hC0 := Lib.hid hC0
  replace hC0l := Lib.hid hC0l
  replace hC0h := Lib.hid hC0h
  replace hC1 := Lib.hid hC1
  replace hC2 := Lib.hid hC2
  replace hC3 := Lib.hid hC3
  replace hnB := Lib.hid hnB
  replace hnA := Lib.hid hnA
  replace hU := Lib.hid hU
  replace hp2l := Lib.hid hp2l
  replace hp1l := Lib.hid hp1l
  replace l1 := Lib.hid l1
  replace l2 := Lib.hid l2
  have hal := balloc w1 (.cells #[.slice A1 sd2.length c1, .int .i64 0, .int .i64 0, .slice A2 pk2.length c2, .int .i64 0, .int .i64 99, .slice A3 S.length c3] 29)
  have hx := Box.new w1 29 [.slice A1 sd2.length c1, .int .i64 0, .int .i64 0, .slice A2 pk2.length c2, .int .i64 0, .int .i64 99, .slice A3 S.length c3]
  change Box (w1.alloc (.cells #[.slice A1 sd2.length c1, .int .i64 0, .int .i64 0, .slice A2 pk2.length c2, .int .i64 0, .int .i64 99, .slice A3 S.length c3] 29)) _ _ _ at hx
  replace r1 := Lib.hid (seesB_of r1 (Nat.le_refl _) hal)
  replace r2 := Lib.hid (seesB_of r2 (Nat.le_refl _) hal)
  replace r3 := Lib.hid (seesB_of r3 (Nat.le_refl _) hal)
  replace r4 := Lib.hid (seesB_of r4 (Nat.le_refl _) hal)
  have hbw := Lib.hid (bgo hb1 hal)
  clear hb1 hal
  dsimp only
  go_upto_region 3 with (fail)
  generalize w1.alloc (.cells #[.slice A1 sd2.length c1, .int .i64 0, .int .i64 0, .slice A2 pk2.length c2, .int .i64 0, .int .i64 99, .slice A3 S.length c3] 29) = W1 at *
  generalize w1.heap.size = g5 at *
  replace hx := Lib.hid hx
  go_wp2_with fail
  refine (hwk.out _).mono ?_
  rintro e w2 ⟨rfl, hw2⟩
  obtain rfl := hw2.symm
  clear hw2
  dsimp only
  go_wp2_with fail
  refine (hsg.out _).mono ?_
  rintro e w2 ⟨v5, v6, sdu, pku, rfl, r5, -, hsu, -, r6, hpu, hpul, -, hb2⟩
  rw [show (0 : Int) % 2 = 0 from rfl] at *
  rw [wrap64_small _ (by omega) (by have := hb.out; omega)] at hsu
  rw [hsu, ← hU.out] at hpu
  replace hpu := hpu.symm
  subst hpu
  obtain ⟨A5, c5, rfl, -, -⟩ := r5.mk_
  obtain ⟨A6, c6, rfl, -, -⟩ := r6.mk_
  rw [hpul] at r6 ⊢
  clear hpul
  have hal := balloc w2 (.cells #[.slice A5 sdu.length c5, .int .i64 0, .int .i64 0] 25)
  replace r6 := Lib.hid (seesB_of r6 (Nat.le_refl _) hal)
  replace hal := bgo hb2 hal
  replace hx := Lib.hid (hx.out.below hal)
  replace r1 := Lib.hid (seesB_of r1.out (Nat.le_refl _) hal)
  replace r2 := Lib.hid (seesB_of r2.out (Nat.le_refl _) hal)
  replace r3 := Lib.hid (seesB_of r3.out (Nat.le_refl _) hal)
  replace r4 := Lib.hid (seesB_of r4.out (Nat.le_refl _) hal)
  replace hbw := Lib.hid (bgo hbw.out hal)
  clear hb2 hal hsu r5
  dsimp only
  go_upto_region 4 with (fail)
  generalize w2.alloc (.cells #[.slice A5 sdu.length c5, .int .i64 0, .int .i64 0] 25) = W2 at *
  go_wp2_with fail
  refine (hkr.out _ _).mono ?_
  rw [← hnA.out]
  rintro e W3 ⟨v7, rfl, r7, hb3, -⟩
  obtain ⟨A7, c7, rfl, -, -⟩ := r7.mk_
  replace hx := hx.out.below hb3
  replace r1 := Lib.hid (seesB_of r1.out (Nat.le_refl _) hb3)
  replace r2 := Lib.hid (seesB_of r2.out (Nat.le_refl _) hb3)
  replace r3 := Lib.hid (seesB_of r3.out (Nat.le_refl _) hb3)
  replace r4 := Lib.hid (seesB_of r4.out (Nat.le_refl _) hb3)
  replace r6 := Lib.hid (seesB_of r6.out (Nat.le_refl _) hb3)
  replace r7 := Lib.hid r7
  replace hbw := Lib.hid (bgo hbw.out hb3)
  rw [hnAl.out] at r7 ⊢
  have K : Hid (∀ W : World, Below W3.heap.size W3 W → W.cell? ⟨g5, 0, none⟩ = some (.slice A1 sd2.length c1) ∧ W.cell? ⟨g5, 1, none⟩ = some (.int .i64 0) ∧ W.cell? ⟨g5, 2, none⟩ = some (.int .i64 0) ∧ W.cell? ⟨g5, 3, none⟩ = some (.slice A2 pk2.length c2) ∧ W.cell? ⟨g5, 4, none⟩ = some (.int .i64 0) ∧ W.cell? ⟨g5, 5, none⟩ = some (.int .i64 99) ∧ W.cell? ⟨g5, 6, none⟩ = some (.slice A3 S.length c3)) :=
    fun W hW => box7_cells (hx.below hW)
  clear hb3 hx
  dsimp only
  go_upto_region 5 with (fail)
  have hans : Hid (∀ (W : World) (u4 : Value), Below W3.heap.size W3 W → SeesL W W.heap.size u4 [nA, nB] → Calls Tryz.prog 8 #[.agg #[.slice A1 sd2.length c1, .int .i64 0, .int .i64 0, .slice A2 pk2.length c2, .int .i64 0, .int .i64 99, .slice A3 S.length c3], u4, .agg #[.int .i64 7, .int .i64 8]] W (DAnsP (((sd2, 0, 1), (pk2, 0, 99, S)), [y0, y1], 0) W)) := fun W u4 hW hl => by
    have h := danswer_any _ _ _ _ u4 sd2 0 0 pk2 0 99 S [nA, nB] 7 8 W (seesB_of r1.out (Nat.le_refl _) hW) (seesB_of r2.out (Nat.le_refl _) hW) (seesB_of r3.out (Nat.le_refl _) hW) hl (Nat.le_refl _) (by have := hp2l.out; omega) (by have := hSl.out; omega) (by simp)
    rw [hR.out] at h
    exact h
  unfold DAnsP at hans
  dsimp only at hans
  obtain ⟨b0, b1, b2, b3, b4, b5, b6⟩ := K.out W3 (Below.refl _ _)
  go_cut [10, 11, 12] (fun v10 v11 v12 W => v12 = .int .i64 0 ∧ SeesL W W.heap.size v11 [y0, y1] ∧ Below W3.heap.size W3 W)
  case first =>
    refine wp_region_J (fun W' : World => W'.cell? ⟨g5, 0, none⟩ = some (.slice A1 sd2.length c1) ∧ W'.cell? ⟨g5, 1, none⟩ = some (.int .i64 0) ∧ W'.cell? ⟨g5, 2, none⟩ = some (.int .i64 0) ∧ W'.cell? ⟨g5, 3, none⟩ = some (.slice A2 pk2.length c2) ∧ W'.cell? ⟨g5, 4, none⟩ = some (.int .i64 0) ∧ W'.cell? ⟨g5, 5, none⟩ = some (.int .i64 99) ∧ W'.cell? ⟨g5, 6, none⟩ = some (.slice A3 S.length c3)) 13 (by kernel_rfl) ?_ (fun hHeld => ?_)
    · (try dsimp only); (first | exact K.out _ hbC.out | exact K.out _ (bdrew W3))
    have hbC := Lib.hid (bdrew W3)
    generalize W3.drew = WX at *
    refine wpAnyJ_take (i := 0) (v := ?_) rfl (by kernel_rfl) (by kernel_rfl) (by kernel_rfl) (fun _ _ _ h => h) (by rfl) rfl (by kernel_rfl) (by kernel_rfl) (Or.inl ⟨by rfl, ?_⟩) (by assumption) ?_
    rotate_left 1
    · intro w hSw; (try dsimp only at hSw); go_simp <;> (try with_reducible rfl)
    try simp only [Act.put, List.getElem_toArray, List.getElem_cons_succ, List.getElem_cons_zero, List.setIfInBounds_toArray, List.set_cons_zero, List.set_cons_succ]
    refine wpAnyJ_take0 (i := 1) (v := ?_) rfl (by kernel_rfl) (by kernel_rfl) (by kernel_rfl) (fun _ _ _ h => h) (by rfl) (Or.inl ⟨by rfl, ?_⟩) (by assumption) ?_
    rotate_left 1
    · intro w hSw; (try dsimp only at hSw); go_simp <;> (try with_reducible rfl)
    try simp only [Act.put, List.getElem_toArray, List.getElem_cons_succ, List.getElem_cons_zero, List.setIfInBounds_toArray, List.set_cons_zero, List.set_cons_succ]
    refine wpAnyJ_take0 (i := 2) (v := ?_) rfl (by kernel_rfl) (by kernel_rfl) (by kernel_rfl) (fun _ _ _ h => h) (by rfl) (Or.inl ⟨by rfl, ?_⟩) (by assumption) ?_
    rotate_left 1
    · intro w hSw; (try dsimp only at hSw); go_simp <;> (try with_reducible rfl)
    try simp only [Act.put, List.getElem_toArray, List.getElem_cons_succ, List.getElem_cons_zero, List.setIfInBounds_toArray, List.set_cons_zero, List.set_cons_succ]
    refine wpAnyJ_take0 (i := 3) (v := ?_) rfl (by kernel_rfl) (by kernel_rfl) (by kernel_rfl) (fun _ _ _ h => h) (by rfl) (Or.inl ⟨by rfl, ?_⟩) (by assumption) ?_
    rotate_left 1
    · intro w hSw; (try dsimp only at hSw); go_simp <;> (try with_reducible rfl)
    try simp only [Act.put, List.getElem_toArray, List.getElem_cons_succ, List.getElem_cons_zero, List.setIfInBounds_toArray, List.set_cons_zero, List.set_cons_succ]
    refine wpAnyJ_take0 (i := 6) (v := ?_) rfl (by kernel_rfl) (by kernel_rfl) (by kernel_rfl) (fun _ _ _ h => h) (by rfl) (Or.inl ⟨by rfl, ?_⟩) (by assumption) ?_
    rotate_left 1
    · intro w hSw; (try dsimp only at hSw); go_simp <;> (try with_reducible rfl)
    try simp only [Act.put, List.getElem_toArray, List.getElem_cons_succ, List.getElem_cons_zero, List.setIfInBounds_toArray, List.set_cons_zero, List.set_cons_succ]
    refine wpAnyJ_ready (rs := [4, 12]) (by kernel_rfl) (by simp) ?_
    refine AllReadyJ.cons (o := _) rfl (fun Kq hKq => ?_) ?_
    · go_simp
      go_at_call 7
      refine (hkr.out _ _).mono ?_
      rw [← hnB.out]
      rintro e WX ⟨vB, rfl, hNew, hal, -⟩
      obtain ⟨AB, cB, rfl, -, -⟩ := hNew.mk_
      replace hbC := Lib.hid (bgo hbC.out hal)
      have hNB := hNew
      clear hNew hal
      go_wp2_with fail
      refine hKq.out _ _ ?_ (fun hHeld => ?_)
      · intro _; (try dsimp only); (first | exact K.out _ hbC.out | exact K.out _ (bdrew W3))
      clear hKq Kq
      try simp only [Act.put, List.getElem_toArray, List.getElem_cons_succ, List.getElem_cons_zero, List.setIfInBounds_toArray, List.set_cons_zero, List.set_cons_succ]
      refine wpAnyJ_ready (rs := [5, 12]) (by kernel_rfl) (by simp) ?_
      refine AllReadyJ.cons (o := _) rfl (fun Kq hKq => ?_) ?_
      · go_simp
        have hLN := seesL_lit WX 23 (vs := [.slice A7 32 c7, .slice AB nB.length cB]) (ls := [nA, nB]) ⟨seesB_of r7.out (Nat.le_refl _) hbC.out, hNB, trivial⟩ (by simp [maxLen])
        have hal := balloc WX (.cells #[.slice A7 32 c7, .slice AB nB.length cB] 23)
        change SeesL (WX.alloc (.cells #[.slice A7 32 c7, .slice AB nB.length cB] 23)) (WX.alloc (.cells #[.slice A7 32 c7, .slice AB nB.length cB] 23)).heap.size (.slice (some ⟨WX.heap.size, 0, none⟩) 2 2) _ at hLN
        replace hNB := seesB_of hNB (Nat.le_refl _) hal
        replace hbC := Lib.hid (bgo hbC.out hal)
        have hLL := hLN
        clear hal hLN
        generalize WX.heap.size = gL at hLL ⊢
        generalize WX.alloc (.cells #[.slice A7 32 c7, .slice AB nB.length cB] 23) = WX at *
        refine hKq.out _ _ ?_ (fun hHeld => ?_)
        · intro _; (try dsimp only); (first | exact K.out _ hbC.out | exact K.out _ (bdrew W3))
        clear hKq Kq
        try simp only [Act.put, List.getElem_toArray, List.getElem_cons_succ, List.getElem_cons_zero, List.setIfInBounds_toArray, List.set_cons_zero, List.set_cons_succ]
        refine wpAnyJ_ready (rs := [7, 12]) (by kernel_rfl) (by simp) ?_
        refine AllReadyJ.cons (o := _) rfl (fun Kq hKq => ?_) ?_
        · go_simp
          go_at_call 8
          refine (hans.out WX _ hbC.out hLL).mono ?_
          rintro e WX ⟨a1, a2, a3, a4, rfl, z1, z2, z3, zN, hal⟩
          obtain ⟨B1, d1, rfl, -, -⟩ := z1.mk_
          obtain ⟨B2, d2, rfl, -, -⟩ := z2.mk_
          obtain ⟨B3, d3, rfl, -, -⟩ := z3.mk_
          clear z1 z2 z3
          replace hLL := (hLL.below hal).more (hal).size
          replace hbC := Lib.hid (bgo hbC.out hal)
          have z4 := zN
          clear hal zN
          go_wp2_with fail
          refine hKq.out _ _ ?_ (fun hHeld => ?_)
          · intro _; (try dsimp only); (first | exact K.out _ hbC.out | exact K.out _ (bdrew W3))
          clear hKq Kq
          try simp only [Act.put, List.getElem_toArray, List.getElem_cons_succ, List.getElem_cons_zero, List.setIfInBounds_toArray, List.set_cons_zero, List.set_cons_succ]
          refine wpAnyJ_take0 (i := 8) (v := ?_) rfl (by kernel_rfl) (by kernel_rfl) (by kernel_rfl) (fun _ _ _ h => h) (by rfl) (Or.inl ⟨by rfl, ?_⟩) (by assumption) ?_
          rotate_left 1
          · intro w hSw; (try dsimp only at hSw); go_simp <;> (try with_reducible rfl)
          try simp only [Act.put, List.getElem_toArray, List.getElem_cons_succ, List.getElem_cons_zero, List.setIfInBounds_toArray, List.set_cons_zero, List.set_cons_succ]
          refine wpAnyJ_take0 (i := 9) (v := ?_) rfl (by kernel_rfl) (by kernel_rfl) (by kernel_rfl) (fun _ _ _ h => h) (by rfl) (Or.inl ⟨by rfl, ?_⟩) (by assumption) ?_
          rotate_left 1
          · intro w hSw; (try dsimp only at hSw); go_simp <;> (try with_reducible rfl)
          try simp only [Act.put, List.getElem_toArray, List.getElem_cons_succ, List.getElem_cons_zero, List.setIfInBounds_toArray, List.set_cons_zero, List.set_cons_succ]
          refine wpAnyJ_take0 (i := 10) (v := ?_) rfl (by kernel_rfl) (by kernel_rfl) (by kernel_rfl) (fun _ _ _ h => h) (by rfl) (Or.inl ⟨by rfl, ?_⟩) (by assumption) ?_
          rotate_left 1
          · intro w hSw; (try dsimp only at hSw); go_simp <;> (try with_reducible rfl)
          try simp only [Act.put, List.getElem_toArray, List.getElem_cons_succ, List.getElem_cons_zero, List.setIfInBounds_toArray, List.set_cons_zero, List.set_cons_succ]
          refine wpAnyJ_take0 (i := 11) (v := ?_) rfl (by kernel_rfl) (by kernel_rfl) (by kernel_rfl) (fun _ _ _ h => h) (by rfl) (Or.inl ⟨by rfl, ?_⟩) (by assumption) ?_
          rotate_left 1
          · intro w hSw; (try dsimp only at hSw); go_simp <;> (try with_reducible rfl)
          try simp only [Act.put, List.getElem_toArray, List.getElem_cons_succ, List.getElem_cons_zero, List.setIfInBounds_toArray, List.set_cons_zero, List.set_cons_succ]
          refine wpAnyJ_ready (rs := [12]) (by kernel_rfl) (by simp) ?_
          refine AllReadyJ.cons (o := _) rfl (fun Kq hKq => ?_) ?_
          · go_simp
            have hal := balloc WX (.cells #[.slice none 0 0, .int .i64 0, .int .i64 0, .slice none 0 0, .int .i64 0, .int .i64 0, .slice none 0 0] 29)
            have xN := Box.new WX 29 [.slice none 0 0, .int .i64 0, .int .i64 0, .slice none 0 0, .int .i64 0, .int .i64 0, .slice none 0 0]
            have hg10 : W3.heap.size ≤ WX.heap.size := hbC.out.size
            change Box (WX.alloc (.cells #[.slice none 0 0, .int .i64 0, .int .i64 0, .slice none 0 0, .int .i64 0, .int .i64 0, .slice none 0 0] 29)) _ _ _ at xN
            replace z4 := (z4.below hal).more (hal).size
            replace hbC := Lib.hid (bgo hbC.out hal)
            have x10 := xN
            clear hal xN
            generalize WX.heap.size = g10 at *
            generalize WX.alloc (.cells #[.slice none 0 0, .int .i64 0, .int .i64 0, .slice none 0 0, .int .i64 0, .int .i64 0, .slice none 0 0] 29) = WX at *
            refine hKq.out _ _ ?_ (fun hHeld => ?_)
            · intro _; (try dsimp only); (first | exact K.out _ hbC.out | exact K.out _ (bdrew W3))
            clear hKq Kq
            try simp only [Act.put, List.getElem_toArray, List.getElem_cons_succ, List.getElem_cons_zero, List.setIfInBounds_toArray, List.set_cons_zero, List.set_cons_succ]
            refine wpAnyJ_ready (rs := [13]) (by kernel_rfl) (by simp) ?_
            refine AllReadyJ.cons (o := _) rfl (fun Kq hKq => ?_) ?_
            · skip
              obtain ⟨w0, w1, w2, w3, w4, w5, w6⟩ := box7_cells x10
              obtain ⟨u0, u1, u2, u3, u4, u5, u6⟩ := box7_soft x10
              go_simp
              refine hKq.out _ _ ?_ (fun hHeld => ?_)
              · intro hl; exact absurd hl (by decide)
              clear hKq Kq
              try simp only [Act.put, List.getElem_toArray, List.getElem_cons_succ, List.getElem_cons_zero, List.setIfInBounds_toArray, List.set_cons_zero, List.set_cons_succ]
              refine wpAnyJ_take0 (i := 14) (v := ?_) rfl (by kernel_rfl) (by kernel_rfl) (by kernel_rfl) (fun _ _ _ h => h) (by rfl) (Or.inl ⟨by rfl, ?_⟩) (by assumption) ?_
              rotate_left 1
              · intro w hSw; (try dsimp only at hSw); go_simp <;> (try with_reducible rfl)
              try simp only [Act.put, List.getElem_toArray, List.getElem_cons_succ, List.getElem_cons_zero, List.setIfInBounds_toArray, List.set_cons_zero, List.set_cons_succ]
              refine wpAnyJ_take0 (i := 15) (v := ?_) rfl (by kernel_rfl) (by kernel_rfl) (by kernel_rfl) (fun _ _ _ h => h) (by rfl) (Or.inl ⟨by rfl, ?_⟩) (by assumption) ?_
              rotate_left 1
              · intro w hSw; (try dsimp only at hSw); go_simp <;> (try with_reducible rfl)
              try simp only [Act.put, List.getElem_toArray, List.getElem_cons_succ, List.getElem_cons_zero, List.setIfInBounds_toArray, List.set_cons_zero, List.set_cons_succ]
              refine wpAnyJ_done (by kernel_rfl) ?_ _
              clear hHeld
              go_wp2_with fail
              go_meet
              have hgr := ggo (ggo (ggo (ggo (ggo (ggo (setCell_grown WX g10 0 (.slice B1 sd2.length d1)) (setCell_grown _ g10 1 (.int .i64 0))) (setCell_grown _ g10 2 (.int .i64 1))) (setCell_grown _ g10 3 (.slice B2 pk2.length d2))) (setCell_grown _ g10 4 (.int .i64 0))) (setCell_grown _ g10 5 (.int .i64 99))) (setCell_grown _ g10 6 (.slice B3 S.length d3))
              exact ⟨rfl, SeesL.overZ z4 x10 noZ7 zeroZ7 hy0n.out hgr, below_set7 hbC.out hg10 (.slice B1 sd2.length d1) (.int .i64 0) (.int .i64 1) (.slice B2 pk2.length d2) (.int .i64 0) (.int .i64 99) (.slice B3 S.length d3)⟩
            exact AllReadyJ.nil
          exact AllReadyJ.nil
        refine AllReadyJ.cons (o := _) rfl (fun Kq hKq => ?_) ?_
        · go_simp
          have hal := balloc WX (.cells #[.slice none 0 0, .int .i64 0, .int .i64 0, .slice none 0 0, .int .i64 0, .int .i64 0, .slice none 0 0] 29)
          have xN := Box.new WX 29 [.slice none 0 0, .int .i64 0, .int .i64 0, .slice none 0 0, .int .i64 0, .int .i64 0, .slice none 0 0]
          have hg10 : W3.heap.size ≤ WX.heap.size := hbC.out.size
          change Box (WX.alloc (.cells #[.slice none 0 0, .int .i64 0, .int .i64 0, .slice none 0 0, .int .i64 0, .int .i64 0, .slice none 0 0] 29)) _ _ _ at xN
          replace hLL := (hLL.below hal).more (hal).size
          replace hbC := Lib.hid (bgo hbC.out hal)
          have x10 := xN
          clear hal xN
          generalize WX.heap.size = g10 at *
          generalize WX.alloc (.cells #[.slice none 0 0, .int .i64 0, .int .i64 0, .slice none 0 0, .int .i64 0, .int .i64 0, .slice none 0 0] 29) = WX at *
          refine hKq.out _ _ ?_ (fun hHeld => ?_)
          · intro _; (try dsimp only); (first | exact K.out _ hbC.out | exact K.out _ (bdrew W3))
          clear hKq Kq
          try simp only [Act.put, List.getElem_toArray, List.getElem_cons_succ, List.getElem_cons_zero, List.setIfInBounds_toArray, List.set_cons_zero, List.set_cons_succ]
          refine wpAnyJ_ready (rs := [7]) (by kernel_rfl) (by simp) ?_
          refine AllReadyJ.cons (o := _) rfl (fun Kq hKq => ?_) ?_
          · go_simp
            go_at_call 8
            refine (hans.out WX _ hbC.out hLL).mono ?_
            rintro e WX ⟨a1, a2, a3, a4, rfl, z1, z2, z3, zN, hal⟩
            obtain ⟨B1, d1, rfl, -, -⟩ := z1.mk_
            obtain ⟨B2, d2, rfl, -, -⟩ := z2.mk_
            obtain ⟨B3, d3, rfl, -, -⟩ := z3.mk_
            clear z1 z2 z3
            replace hLL := (hLL.below hal).more (hal).size
            replace x10 := x10.below hal
            replace hbC := Lib.hid (bgo hbC.out hal)
            have z4 := zN
            clear hal zN
            go_wp2_with fail
            refine hKq.out _ _ ?_ (fun hHeld => ?_)
            · intro _; (try dsimp only); (first | exact K.out _ hbC.out | exact K.out _ (bdrew W3))
            clear hKq Kq
            try simp only [Act.put, List.getElem_toArray, List.getElem_cons_succ, List.getElem_cons_zero, List.setIfInBounds_toArray, List.set_cons_zero, List.set_cons_succ]
            refine wpAnyJ_take0 (i := 8) (v := ?_) rfl (by kernel_rfl) (by kernel_rfl) (by kernel_rfl) (fun _ _ _ h => h) (by rfl) (Or.inl ⟨by rfl, ?_⟩) (by assumption) ?_
            rotate_left 1
            · intro w hSw; (try dsimp only at hSw); go_simp <;> (try with_reducible rfl)
            try simp only [Act.put, List.getElem_toArray, List.getElem_cons_succ, List.getElem_cons_zero, List.setIfInBounds_toArray, List.set_cons_zero, List.set_cons_succ]
            refine wpAnyJ_take0 (i := 9) (v := ?_) rfl (by kernel_rfl) (by kernel_rfl) (by kernel_rfl) (fun _ _ _ h => h) (by rfl) (Or.inl ⟨by rfl, ?_⟩) (by assumption) ?_
            rotate_left 1
            · intro w hSw; (try dsimp only at hSw); go_simp <;> (try with_reducible rfl)
            try simp only [Act.put, List.getElem_toArray, List.getElem_cons_succ, List.getElem_cons_zero, List.setIfInBounds_toArray, List.set_cons_zero, List.set_cons_succ]
            refine wpAnyJ_take0 (i := 10) (v := ?_) rfl (by kernel_rfl) (by kernel_rfl) (by kernel_rfl) (fun _ _ _ h => h) (by rfl) (Or.inl ⟨by rfl, ?_⟩) (by assumption) ?_
            rotate_left 1
            · intro w hSw; (try dsimp only at hSw); go_simp <;> (try with_reducible rfl)
            try simp only [Act.put, List.getElem_toArray, List.getElem_cons_succ, List.getElem_cons_zero, List.setIfInBounds_toArray, List.set_cons_zero, List.set_cons_succ]
            refine wpAnyJ_take0 (i := 11) (v := ?_) rfl (by kernel_rfl) (by kernel_rfl) (by kernel_rfl) (fun _ _ _ h => h) (by rfl) (Or.inl ⟨by rfl, ?_⟩) (by assumption) ?_
            rotate_left 1
            · intro w hSw; (try dsimp only at hSw); go_simp <;> (try with_reducible rfl)
            try simp only [Act.put, List.getElem_toArray, List.getElem_cons_succ, List.getElem_cons_zero, List.setIfInBounds_toArray, List.set_cons_zero, List.set_cons_succ]
            refine wpAnyJ_ready (rs := [13]) (by kernel_rfl) (by simp) ?_
            refine AllReadyJ.cons (o := _) rfl (fun Kq hKq => ?_) ?_
            · skip
              obtain ⟨w0, w1, w2, w3, w4, w5, w6⟩ := box7_cells x10
              obtain ⟨u0, u1, u2, u3, u4, u5, u6⟩ := box7_soft x10
              go_simp
              refine hKq.out _ _ ?_ (fun hHeld => ?_)
              · intro hl; exact absurd hl (by decide)
              clear hKq Kq
              try simp only [Act.put, List.getElem_toArray, List.getElem_cons_succ, List.getElem_cons_zero, List.setIfInBounds_toArray, List.set_cons_zero, List.set_cons_succ]
              refine wpAnyJ_take0 (i := 14) (v := ?_) rfl (by kernel_rfl) (by kernel_rfl) (by kernel_rfl) (fun _ _ _ h => h) (by rfl) (Or.inl ⟨by rfl, ?_⟩) (by assumption) ?_
              rotate_left 1
              · intro w hSw; (try dsimp only at hSw); go_simp <;> (try with_reducible rfl)
              try simp only [Act.put, List.getElem_toArray, List.getElem_cons_succ, List.getElem_cons_zero, List.setIfInBounds_toArray, List.set_cons_zero, List.set_cons_succ]
              refine wpAnyJ_take0 (i := 15) (v := ?_) rfl (by kernel_rfl) (by kernel_rfl) (by kernel_rfl) (fun _ _ _ h => h) (by rfl) (Or.inl ⟨by rfl, ?_⟩) (by assumption) ?_
              rotate_left 1
              · intro w hSw; (try dsimp only at hSw); go_simp <;> (try with_reducible rfl)
              try simp only [Act.put, List.getElem_toArray, List.getElem_cons_succ, List.getElem_cons_zero, List.setIfInBounds_toArray, List.set_cons_zero, List.set_cons_succ]
              refine wpAnyJ_done (by kernel_rfl) ?_ _
              clear hHeld
              go_wp2_with fail
              go_meet
              have hgr := ggo (ggo (ggo (ggo (ggo (ggo (setCell_grown WX g10 0 (.slice B1 sd2.length d1)) (setCell_grown _ g10 1 (.int .i64 0))) (setCell_grown _ g10 2 (.int .i64 1))) (setCell_grown _ g10 3 (.slice B2 pk2.length d2))) (setCell_grown _ g10 4 (.int .i64 0))) (setCell_grown _ g10 5 (.int .i64 99))) (setCell_grown _ g10 6 (.slice B3 S.length d3))
              exact ⟨rfl, SeesL.overZ z4 x10 noZ7 zeroZ7 hy0n.out hgr, below_set7 hbC.out hg10 (.slice B1 sd2.length d1) (.int .i64 0) (.int .i64 1) (.slice B2 pk2.length d2) (.int .i64 0) (.int .i64 99) (.slice B3 S.length d3)⟩
            exact AllReadyJ.nil
          exact AllReadyJ.nil
        exact AllReadyJ.nil
      refine AllReadyJ.cons (o := _) rfl (fun Kq hKq => ?_) ?_
      · go_simp
        have hal := balloc WX (.cells #[.slice none 0 0, .int .i64 0, .int .i64 0, .slice none 0 0, .int .i64 0, .int .i64 0, .slice none 0 0] 29)
        have xN := Box.new WX 29 [.slice none 0 0, .int .i64 0, .int .i64 0, .slice none 0 0, .int .i64 0, .int .i64 0, .slice none 0 0]
        have hg10 : W3.heap.size ≤ WX.heap.size := hbC.out.size
        change Box (WX.alloc (.cells #[.slice none 0 0, .int .i64 0, .int .i64 0, .slice none 0 0, .int .i64 0, .int .i64 0, .slice none 0 0] 29)) _ _ _ at xN
        replace hNB := seesB_of hNB (Nat.le_refl _) hal
        replace hbC := Lib.hid (bgo hbC.out hal)
        have x10 := xN
        clear hal xN
        generalize WX.heap.size = g10 at *
        generalize WX.alloc (.cells #[.slice none 0 0, .int .i64 0, .int .i64 0, .slice none 0 0, .int .i64 0, .int .i64 0, .slice none 0 0] 29) = WX at *
        refine hKq.out _ _ ?_ (fun hHeld => ?_)
        · intro _; (try dsimp only); (first | exact K.out _ hbC.out | exact K.out _ (bdrew W3))
        clear hKq Kq
        try simp only [Act.put, List.getElem_toArray, List.getElem_cons_succ, List.getElem_cons_zero, List.setIfInBounds_toArray, List.set_cons_zero, List.set_cons_succ]
        refine wpAnyJ_ready (rs := [5]) (by kernel_rfl) (by simp) ?_
        refine AllReadyJ.cons (o := _) rfl (fun Kq hKq => ?_) ?_
        · go_simp
          have hLN := seesL_lit WX 23 (vs := [.slice A7 32 c7, .slice AB nB.length cB]) (ls := [nA, nB]) ⟨seesB_of r7.out (Nat.le_refl _) hbC.out, hNB, trivial⟩ (by simp [maxLen])
          have hal := balloc WX (.cells #[.slice A7 32 c7, .slice AB nB.length cB] 23)
          change SeesL (WX.alloc (.cells #[.slice A7 32 c7, .slice AB nB.length cB] 23)) (WX.alloc (.cells #[.slice A7 32 c7, .slice AB nB.length cB] 23)).heap.size (.slice (some ⟨WX.heap.size, 0, none⟩) 2 2) _ at hLN
          replace hNB := seesB_of hNB (Nat.le_refl _) hal
          replace x10 := x10.below hal
          replace hbC := Lib.hid (bgo hbC.out hal)
          have hLL := hLN
          clear hal hLN
          generalize WX.heap.size = gL at hLL ⊢
          generalize WX.alloc (.cells #[.slice A7 32 c7, .slice AB nB.length cB] 23) = WX at *
          refine hKq.out _ _ ?_ (fun hHeld => ?_)
          · intro _; (try dsimp only); (first | exact K.out _ hbC.out | exact K.out _ (bdrew W3))
          clear hKq Kq
          try simp only [Act.put, List.getElem_toArray, List.getElem_cons_succ, List.getElem_cons_zero, List.setIfInBounds_toArray, List.set_cons_zero, List.set_cons_succ]
          refine wpAnyJ_ready (rs := [7]) (by kernel_rfl) (by simp) ?_
          refine AllReadyJ.cons (o := _) rfl (fun Kq hKq => ?_) ?_
          · go_simp
            go_at_call 8
            refine (hans.out WX _ hbC.out hLL).mono ?_
            rintro e WX ⟨a1, a2, a3, a4, rfl, z1, z2, z3, zN, hal⟩
            obtain ⟨B1, d1, rfl, -, -⟩ := z1.mk_
            obtain ⟨B2, d2, rfl, -, -⟩ := z2.mk_
            obtain ⟨B3, d3, rfl, -, -⟩ := z3.mk_
            clear z1 z2 z3
            replace hLL := (hLL.below hal).more (hal).size
            replace x10 := x10.below hal
            replace hbC := Lib.hid (bgo hbC.out hal)
            have z4 := zN
            clear hal zN
            go_wp2_with fail
            refine hKq.out _ _ ?_ (fun hHeld => ?_)
            · intro _; (try dsimp only); (first | exact K.out _ hbC.out | exact K.out _ (bdrew W3))
            clear hKq Kq
            try simp only [Act.put, List.getElem_toArray, List.getElem_cons_succ, List.getElem_cons_zero, List.setIfInBounds_toArray, List.set_cons_zero, List.set_cons_succ]
            refine wpAnyJ_take0 (i := 8) (v := ?_) rfl (by kernel_rfl) (by kernel_rfl) (by kernel_rfl) (fun _ _ _ h => h) (by rfl) (Or.inl ⟨by rfl, ?_⟩) (by assumption) ?_
            rotate_left 1
            · intro w hSw; (try dsimp only at hSw); go_simp <;> (try with_reducible rfl)
            try simp only [Act.put, List.getElem_toArray, List.getElem_cons_succ, List.getElem_cons_zero, List.setIfInBounds_toArray, List.set_cons_zero, List.set_cons_succ]
            refine wpAnyJ_take0 (i := 9) (v := ?_) rfl (by kernel_rfl) (by kernel_rfl) (by kernel_rfl) (fun _ _ _ h => h) (by rfl) (Or.inl ⟨by rfl, ?_⟩) (by assumption) ?_
            rotate_left 1
            · intro w hSw; (try dsimp only at hSw); go_simp <;> (try with_reducible rfl)
            try simp only [Act.put, List.getElem_toArray, List.getElem_cons_succ, List.getElem_cons_zero, List.setIfInBounds_toArray, List.set_cons_zero, List.set_cons_succ]
            refine wpAnyJ_take0 (i := 10) (v := ?_) rfl (by kernel_rfl) (by kernel_rfl) (by kernel_rfl) (fun _ _ _ h => h) (by rfl) (Or.inl ⟨by rfl, ?_⟩) (by assumption) ?_
            rotate_left 1
            · intro w hSw; (try dsimp only at hSw); go_simp <;> (try with_reducible rfl)
            try simp only [Act.put, List.getElem_toArray, List.getElem_cons_succ, List.getElem_cons_zero, List.setIfInBounds_toArray, List.set_cons_zero, List.set_cons_succ]
            refine wpAnyJ_take0 (i := 11) (v := ?_) rfl (by kernel_rfl) (by kernel_rfl) (by kernel_rfl) (fun _ _ _ h => h) (by rfl) (Or.inl ⟨by rfl, ?_⟩) (by assumption) ?_
            rotate_left 1
            · intro w hSw; (try dsimp only at hSw); go_simp <;> (try with_reducible rfl)
            try simp only [Act.put, List.getElem_toArray, List.getElem_cons_succ, List.getElem_cons_zero, List.setIfInBounds_toArray, List.set_cons_zero, List.set_cons_succ]
            refine wpAnyJ_ready (rs := [13]) (by kernel_rfl) (by simp) ?_
            refine AllReadyJ.cons (o := _) rfl (fun Kq hKq => ?_) ?_
            · skip
              obtain ⟨w0, w1, w2, w3, w4, w5, w6⟩ := box7_cells x10
              obtain ⟨u0, u1, u2, u3, u4, u5, u6⟩ := box7_soft x10
              go_simp
              refine hKq.out _ _ ?_ (fun hHeld => ?_)
              · intro hl; exact absurd hl (by decide)
              clear hKq Kq
              try simp only [Act.put, List.getElem_toArray, List.getElem_cons_succ, List.getElem_cons_zero, List.setIfInBounds_toArray, List.set_cons_zero, List.set_cons_succ]
              refine wpAnyJ_take0 (i := 14) (v := ?_) rfl (by kernel_rfl) (by kernel_rfl) (by kernel_rfl) (fun _ _ _ h => h) (by rfl) (Or.inl ⟨by rfl, ?_⟩) (by assumption) ?_
              rotate_left 1
              · intro w hSw; (try dsimp only at hSw); go_simp <;> (try with_reducible rfl)
              try simp only [Act.put, List.getElem_toArray, List.getElem_cons_succ, List.getElem_cons_zero, List.setIfInBounds_toArray, List.set_cons_zero, List.set_cons_succ]
              refine wpAnyJ_take0 (i := 15) (v := ?_) rfl (by kernel_rfl) (by kernel_rfl) (by kernel_rfl) (fun _ _ _ h => h) (by rfl) (Or.inl ⟨by rfl, ?_⟩) (by assumption) ?_
              rotate_left 1
              · intro w hSw; (try dsimp only at hSw); go_simp <;> (try with_reducible rfl)
              try simp only [Act.put, List.getElem_toArray, List.getElem_cons_succ, List.getElem_cons_zero, List.setIfInBounds_toArray, List.set_cons_zero, List.set_cons_succ]
              refine wpAnyJ_done (by kernel_rfl) ?_ _
              clear hHeld
              go_wp2_with fail
              go_meet
              have hgr := ggo (ggo (ggo (ggo (ggo (ggo (setCell_grown WX g10 0 (.slice B1 sd2.length d1)) (setCell_grown _ g10 1 (.int .i64 0))) (setCell_grown _ g10 2 (.int .i64 1))) (setCell_grown _ g10 3 (.slice B2 pk2.length d2))) (setCell_grown _ g10 4 (.int .i64 0))) (setCell_grown _ g10 5 (.int .i64 99))) (setCell_grown _ g10 6 (.slice B3 S.length d3))
              exact ⟨rfl, SeesL.overZ z4 x10 noZ7 zeroZ7 hy0n.out hgr, below_set7 hbC.out hg10 (.slice B1 sd2.length d1) (.int .i64 0) (.int .i64 1) (.slice B2 pk2.length d2) (.int .i64 0) (.int .i64 99) (.slice B3 S.length d3)⟩
            exact AllReadyJ.nil
          exact AllReadyJ.nil
        exact AllReadyJ.nil
      exact AllReadyJ.nil
    refine AllReadyJ.cons (o := _) rfl (fun Kq hKq => ?_) ?_
    · go_simp
      have hal := balloc WX (.cells #[.slice none 0 0, .int .i64 0, .int .i64 0, .slice none 0 0, .int .i64 0, .int .i64 0, .slice none 0 0] 29)
      have xN := Box.new WX 29 [.slice none 0 0, .int .i64 0, .int .i64 0, .slice none 0 0, .int .i64 0, .int .i64 0, .slice none 0 0]
      have hg10 : W3.heap.size ≤ WX.heap.size := hbC.out.size
      change Box (WX.alloc (.cells #[.slice none 0 0, .int .i64 0, .int .i64 0, .slice none 0 0, .int .i64 0, .int .i64 0, .slice none 0 0] 29)) _ _ _ at xN
      replace hbC := Lib.hid (bgo hbC.out hal)
      have x10 := xN
      clear hal xN
      generalize WX.heap.size = g10 at *
      generalize WX.alloc (.cells #[.slice none 0 0, .int .i64 0, .int .i64 0, .slice none 0 0, .int .i64 0, .int .i64 0, .slice none 0 0] 29) = WX at *
      refine hKq.out _ _ ?_ (fun hHeld => ?_)
      · intro _; (try dsimp only); (first | exact K.out _ hbC.out | exact K.out _ (bdrew W3))
      clear hKq Kq
      try simp only [Act.put, List.getElem_toArray, List.getElem_cons_succ, List.getElem_cons_zero, List.setIfInBounds_toArray, List.set_cons_zero, List.set_cons_succ]
      refine wpAnyJ_ready (rs := [4]) (by kernel_rfl) (by simp) ?_
      refine AllReadyJ.cons (o := _) rfl (fun Kq hKq => ?_) ?_
      · go_simp
        go_at_call 7
        refine (hkr.out _ _).mono ?_
        rw [← hnB.out]
        rintro e WX ⟨vB, rfl, hNew, hal, -⟩
        obtain ⟨AB, cB, rfl, -, -⟩ := hNew.mk_
        replace x10 := x10.below hal
        replace hbC := Lib.hid (bgo hbC.out hal)
        have hNB := hNew
        clear hNew hal
        go_wp2_with fail
        refine hKq.out _ _ ?_ (fun hHeld => ?_)
        · intro _; (try dsimp only); (first | exact K.out _ hbC.out | exact K.out _ (bdrew W3))
        clear hKq Kq
        try simp only [Act.put, List.getElem_toArray, List.getElem_cons_succ, List.getElem_cons_zero, List.setIfInBounds_toArray, List.set_cons_zero, List.set_cons_succ]
        refine wpAnyJ_ready (rs := [5]) (by kernel_rfl) (by simp) ?_
        refine AllReadyJ.cons (o := _) rfl (fun Kq hKq => ?_) ?_
        · go_simp
          have hLN := seesL_lit WX 23 (vs := [.slice A7 32 c7, .slice AB nB.length cB]) (ls := [nA, nB]) ⟨seesB_of r7.out (Nat.le_refl _) hbC.out, hNB, trivial⟩ (by simp [maxLen])
          have hal := balloc WX (.cells #[.slice A7 32 c7, .slice AB nB.length cB] 23)
          change SeesL (WX.alloc (.cells #[.slice A7 32 c7, .slice AB nB.length cB] 23)) (WX.alloc (.cells #[.slice A7 32 c7, .slice AB nB.length cB] 23)).heap.size (.slice (some ⟨WX.heap.size, 0, none⟩) 2 2) _ at hLN
          replace hNB := seesB_of hNB (Nat.le_refl _) hal
          replace x10 := x10.below hal
          replace hbC := Lib.hid (bgo hbC.out hal)
          have hLL := hLN
          clear hal hLN
          generalize WX.heap.size = gL at hLL ⊢
          generalize WX.alloc (.cells #[.slice A7 32 c7, .slice AB nB.length cB] 23) = WX at *
          refine hKq.out _ _ ?_ (fun hHeld => ?_)
          · intro _; (try dsimp only); (first | exact K.out _ hbC.out | exact K.out _ (bdrew W3))
          clear hKq Kq
          try simp only [Act.put, List.getElem_toArray, List.getElem_cons_succ, List.getElem_cons_zero, List.setIfInBounds_toArray, List.set_cons_zero, List.set_cons_succ]
          refine wpAnyJ_ready (rs := [7]) (by kernel_rfl) (by simp) ?_
          refine AllReadyJ.cons (o := _) rfl (fun Kq hKq => ?_) ?_
          · go_simp
            go_at_call 8
            refine (hans.out WX _ hbC.out hLL).mono ?_
            rintro e WX ⟨a1, a2, a3, a4, rfl, z1, z2, z3, zN, hal⟩
            obtain ⟨B1, d1, rfl, -, -⟩ := z1.mk_
            obtain ⟨B2, d2, rfl, -, -⟩ := z2.mk_
            obtain ⟨B3, d3, rfl, -, -⟩ := z3.mk_
            clear z1 z2 z3
            replace hLL := (hLL.below hal).more (hal).size
            replace x10 := x10.below hal
            replace hbC := Lib.hid (bgo hbC.out hal)
            have z4 := zN
            clear hal zN
            go_wp2_with fail
            refine hKq.out _ _ ?_ (fun hHeld => ?_)
            · intro _; (try dsimp only); (first | exact K.out _ hbC.out | exact K.out _ (bdrew W3))
            clear hKq Kq
            try simp only [Act.put, List.getElem_toArray, List.getElem_cons_succ, List.getElem_cons_zero, List.setIfInBounds_toArray, List.set_cons_zero, List.set_cons_succ]
            refine wpAnyJ_take0 (i := 8) (v := ?_) rfl (by kernel_rfl) (by kernel_rfl) (by kernel_rfl) (fun _ _ _ h => h) (by rfl) (Or.inl ⟨by rfl, ?_⟩) (by assumption) ?_
            rotate_left 1
            · intro w hSw; (try dsimp only at hSw); go_simp <;> (try with_reducible rfl)
            try simp only [Act.put, List.getElem_toArray, List.getElem_cons_succ, List.getElem_cons_zero, List.setIfInBounds_toArray, List.set_cons_zero, List.set_cons_succ]
            refine wpAnyJ_take0 (i := 9) (v := ?_) rfl (by kernel_rfl) (by kernel_rfl) (by kernel_rfl) (fun _ _ _ h => h) (by rfl) (Or.inl ⟨by rfl, ?_⟩) (by assumption) ?_
            rotate_left 1
            · intro w hSw; (try dsimp only at hSw); go_simp <;> (try with_reducible rfl)
            try simp only [Act.put, List.getElem_toArray, List.getElem_cons_succ, List.getElem_cons_zero, List.setIfInBounds_toArray, List.set_cons_zero, List.set_cons_succ]
            refine wpAnyJ_take0 (i := 10) (v := ?_) rfl (by kernel_rfl) (by kernel_rfl) (by kernel_rfl) (fun _ _ _ h => h) (by rfl) (Or.inl ⟨by rfl, ?_⟩) (by assumption) ?_
            rotate_left 1
            · intro w hSw; (try dsimp only at hSw); go_simp <;> (try with_reducible rfl)
            try simp only [Act.put, List.getElem_toArray, List.getElem_cons_succ, List.getElem_cons_zero, List.setIfInBounds_toArray, List.set_cons_zero, List.set_cons_succ]
            refine wpAnyJ_take0 (i := 11) (v := ?_) rfl (by kernel_rfl) (by kernel_rfl) (by kernel_rfl) (fun _ _ _ h => h) (by rfl) (Or.inl ⟨by rfl, ?_⟩) (by assumption) ?_
            rotate_left 1
            · intro w hSw; (try dsimp only at hSw); go_simp <;> (try with_reducible rfl)
            try simp only [Act.put, List.getElem_toArray, List.getElem_cons_succ, List.getElem_cons_zero, List.setIfInBounds_toArray, List.set_cons_zero, List.set_cons_succ]
            refine wpAnyJ_ready (rs := [13]) (by kernel_rfl) (by simp) ?_
            refine AllReadyJ.cons (o := _) rfl (fun Kq hKq => ?_) ?_
            · skip
              obtain ⟨w0, w1, w2, w3, w4, w5, w6⟩ := box7_cells x10
              obtain ⟨u0, u1, u2, u3, u4, u5, u6⟩ := box7_soft x10
              go_simp
              refine hKq.out _ _ ?_ (fun hHeld => ?_)
              · intro hl; exact absurd hl (by decide)
              clear hKq Kq
              try simp only [Act.put, List.getElem_toArray, List.getElem_cons_succ, List.getElem_cons_zero, List.setIfInBounds_toArray, List.set_cons_zero, List.set_cons_succ]
              refine wpAnyJ_take0 (i := 14) (v := ?_) rfl (by kernel_rfl) (by kernel_rfl) (by kernel_rfl) (fun _ _ _ h => h) (by rfl) (Or.inl ⟨by rfl, ?_⟩) (by assumption) ?_
              rotate_left 1
              · intro w hSw; (try dsimp only at hSw); go_simp <;> (try with_reducible rfl)
              try simp only [Act.put, List.getElem_toArray, List.getElem_cons_succ, List.getElem_cons_zero, List.setIfInBounds_toArray, List.set_cons_zero, List.set_cons_succ]
              refine wpAnyJ_take0 (i := 15) (v := ?_) rfl (by kernel_rfl) (by kernel_rfl) (by kernel_rfl) (fun _ _ _ h => h) (by rfl) (Or.inl ⟨by rfl, ?_⟩) (by assumption) ?_
              rotate_left 1
              · intro w hSw; (try dsimp only at hSw); go_simp <;> (try with_reducible rfl)
              try simp only [Act.put, List.getElem_toArray, List.getElem_cons_succ, List.getElem_cons_zero, List.setIfInBounds_toArray, List.set_cons_zero, List.set_cons_succ]
              refine wpAnyJ_done (by kernel_rfl) ?_ _
              clear hHeld
              go_wp2_with fail
              go_meet
              have hgr := ggo (ggo (ggo (ggo (ggo (ggo (setCell_grown WX g10 0 (.slice B1 sd2.length d1)) (setCell_grown _ g10 1 (.int .i64 0))) (setCell_grown _ g10 2 (.int .i64 1))) (setCell_grown _ g10 3 (.slice B2 pk2.length d2))) (setCell_grown _ g10 4 (.int .i64 0))) (setCell_grown _ g10 5 (.int .i64 99))) (setCell_grown _ g10 6 (.slice B3 S.length d3))
              exact ⟨rfl, SeesL.overZ z4 x10 noZ7 zeroZ7 hy0n.out hgr, below_set7 hbC.out hg10 (.slice B1 sd2.length d1) (.int .i64 0) (.int .i64 1) (.slice B2 pk2.length d2) (.int .i64 0) (.int .i64 99) (.slice B3 S.length d3)⟩
            exact AllReadyJ.nil
          exact AllReadyJ.nil
        exact AllReadyJ.nil
      exact AllReadyJ.nil
    exact AllReadyJ.nil
  case rest =>
  obtain ⟨rfl, hls, hcb⟩ := hcut
  obtain ⟨wz, rfl⟩ : ∃ W : World, W = wc := ⟨_, rfl⟩
  obtain ⟨Al, cl, rfl, -, -⟩ := hls.mk_
  obtain ⟨bl, ol, rfl, hbl, hz⟩ := hls.at_ (by simp)
  obtain ⟨E0, ce0, hz0, -, -, hs0⟩ := hz 0 (by simp)
  obtain ⟨E1, ce1, hz1, -, -, hs1⟩ := hz 1 (by simp)
  rw [show [y0, y1].getD 0 [] = y0 from rfl, Nat.add_zero] at hz0
  rw [show [y0, y1].getD 0 [] = y0 from rfl] at hs0
  rw [show [y0, y1].getD 1 [] = y1 from rfl] at hz1 hs1
  have KL : Hid (∀ W : World, Below wz.heap.size wz W → W.cell? ⟨bl, ol, none⟩ = some (.slice E0 y0.length ce0) ∧ W.cell? ⟨bl, ol + 1, none⟩ = some (.slice E1 y1.length ce1)) :=
    fun W hW => ⟨(hW.cell (p := ⟨bl, ol, none⟩) hbl).trans hz0, (hW.cell (p := ⟨bl, ol + 1, none⟩) hbl).trans hz1⟩
  replace r4 := Lib.hid (seesB_of r4.out (Nat.le_refl _) hcb)
  replace r6 := Lib.hid (seesB_of r6.out (Nat.le_refl _) hcb)
  replace r7 := Lib.hid (seesB_of r7.out (Nat.le_refl _) hcb)
  replace hbw := Lib.hid (bgo hbw.out hcb)
  have hver := fun (W : World) (hW : Below wz.heap.size wz W) (u u3 : Value) (l b : Bs) (hu : SeesB W W.heap.size u l) (hb' : SeesB W W.heap.size u3 b) (hl : b.length ≤ 1048576) => dverify_any W.heap.size u (.slice A7 32 c7) u3 l nA b W hu (seesB_of r7.out (Nat.le_refl _) hW) hb' (Nat.le_refl _) hl
  unfold DVerP at hver
  replace hver := Lib.hid hver
  replace hs0 := Lib.hid hs0
  replace hs1 := Lib.hid hs1
  obtain ⟨z0, z1⟩ := KL.out wz (Below.refl _ _)
  rw [hp1l.out] at r4
  rw [show [y0, y1].length = 2 from rfl]
  clear hls hz hz0 hz1 hcb hans K hkr b0 b1 b2 b3 b4 b5 b6 r1 r2 r3
  have hvA := hver.out wz (Below.refl _ _) (.slice A4 32 c4) (.slice E0 y0.length ce0) pk1 y0 r4.out hs0.out (by have := hy0.out; omega)
  rw [hC0.out, hC0l.out, hC0h.out] at hvA
  replace hvA := Lib.hid hvA
  rw [hp1l.out]
  go_wp2_with fail
  refine hvA.out.mono ?_
  rintro e w5 ⟨rfl, hb5⟩
  have hal := balloc w5 (.cells #[.int .i64 7, .int .i64 8] 40)
  have x13 := Box.new w5 40 [.int .i64 7, .int .i64 8]
  change Box (w5.alloc (.cells #[.int .i64 7, .int .i64 8] 40)) _ _ _ at x13
  replace hb5 := bgo hb5 hal
  obtain ⟨z0, z1⟩ := KL.out _ hb5
  clear hvA hal
  dsimp only
  go_upto_region 9 with (fail)
  generalize w5.alloc (.cells #[.int .i64 7, .int .i64 8] 40) = W5 at *
  generalize w5.heap.size = g13 at *
  have hvB := hver.out W5 hb5 (.slice A6 32 c6) (.slice E0 y0.length ce0) U y0 (seesB_of r6.out (Nat.le_refl _) hb5) (seesB_of hs0.out (Nat.le_refl _) hb5) (by have := hy0.out; omega)
  rw [hC1.out] at hvB
  generalize dverLo U nA y0 = LB at hvB
  generalize dverHi U nA y0 = HB at hvB
  replace hvB := Lib.hid hvB
  replace hb5 := Lib.hid hb5
  replace x13 := Lib.hid x13
  go_wp2_with fail
  refine hvB.out.mono ?_
  rintro e w6 ⟨rfl, hb6⟩
  have hal := balloc w6 (.cells #[.int .i64 LB, .int .i64 HB] 40)
  replace hb6 := bgo hb6 hal
  replace x13 := x13.out.below hb6
  replace hb6 := bgo hb5.out hb6
  clear z0 z1
  obtain ⟨z0, z1⟩ := KL.out _ hb6
  clear hvB hal hb5
  dsimp only
  go_upto_region 10 with (fail)
  generalize w6.alloc (.cells #[.int .i64 LB, .int .i64 HB] 40) = W6 at *
  have hvC := hver.out W6 hb6 (.slice A4 32 c4) (.slice E1 y1.length ce1) pk1 y1 (seesB_of r4.out (Nat.le_refl _) hb6) (seesB_of hs1.out (Nat.le_refl _) hb6) (by have := hy1.out; omega)
  rw [hC2.out] at hvC
  generalize dverLo pk1 nA y1 = LC at hvC
  generalize dverHi pk1 nA y1 = HC at hvC
  replace hvC := Lib.hid hvC
  replace hb6 := Lib.hid hb6
  replace x13 := Lib.hid x13
  go_wp2_with fail
  refine hvC.out.mono ?_
  rintro e w7 ⟨rfl, hb7⟩
  have hal := balloc w7 (.cells #[.int .i64 LC, .int .i64 HC] 40)
  replace hb7 := bgo hb7 hal
  replace x13 := x13.out.below hb7
  replace hb7 := bgo hb6.out hb7
  clear z0 z1
  obtain ⟨z0, z1⟩ := KL.out _ hb7
  clear hvC hal hb6
  dsimp only
  go_upto_region 11 with (fail)
  generalize w7.alloc (.cells #[.int .i64 LC, .int .i64 HC] 40) = W7 at *
  obtain ⟨Ac, cc, ec, hcc, -⟩ := r4.out.mk_
  injection ec with ec1 ec2 ec3
  subst ec1 ec3
  clear ec2
  rw [hp1l.out] at hcc
  have hcut1 : ∀ W, (Instr.slice 23 (.slice A4 32 c4) none (some (.int .i64 31)) none).run Tryz.prog W = .ok (.slice (cutA A4 c4 0 1) 31 c4) W := fun W => run_cut_to (P := Tryz.prog) 23 Tryz.underlying23 1 byte_size A4 32 c4 .i64 31 (by omega) (by omega) W
  have r31 : SeesB wz wz.heap.size (.slice (cutA A4 c4 0 1) 31 c4) (pk1.take 31) := by
    have h := r4.out.cut (a := 0) (b := 31) (by omega) (by rw [hp1l.out]; omega)
    rw [List.drop_zero] at h
    exact h
  generalize cutA A4 c4 0 1 = A31 at *
  have hvD : Hid (∀ W : World, Below wz.heap.size wz W → Calls Tryz.prog 9 #[.slice A31 31 c4, .slice A7 32 c7, .slice E0 y0.length ce0] W fun e w' => e = .returned (.tuple #[.agg #[.int .i64 (dverLo (pk1.take 31) nA y0), .int .i64 (dverHi (pk1.take 31) nA y0)], .int .i64 5]) ∧ Below W.heap.size W w') := fun W hW => by
    have h := hver.out W hW (.slice A31 31 c4) (.slice E0 y0.length ce0) (pk1.take 31) y0 (seesB_of r31 (Nat.le_refl _) hW) (seesB_of hs0.out (Nat.le_refl _) hW) (by have := hy0.out; omega)
    rw [hC3.out] at h
    exact h
  generalize dverLo (pk1.take 31) nA y0 = LD at *
  generalize dverHi (pk1.take 31) nA y0 = HD at *
  replace hb7 := Lib.hid hb7
  replace x13 := Lib.hid x13
  clear r31 hcc
  go_cut [20] (fun v20 W => v20 = .int .i64 5 ∧ Below W7.heap.size W7 W)
  case first =>
    refine wp_region_J (fun W' : World => W'.cell? ⟨bl, ol, none⟩ = some (.slice E0 y0.length ce0) ∧ W'.cell? ⟨bl, ol + 1, none⟩ = some (.slice E1 y1.length ce1)) 11 (by kernel_rfl) ?_ (fun hHeld => ?_)
    · (try dsimp only); (first | exact KL.out _ (bgo hb7.out hbC.out) | exact KL.out _ (bgo hb7.out (bdrew W7)) | exact KL.out _ hb7.out)
    have hbC := Lib.hid (bdrew W7)
    generalize W7.drew = WX at *
    refine wpAnyJ_take0 (i := 0) (v := ?_) rfl (by kernel_rfl) (by kernel_rfl) (by kernel_rfl) (fun _ _ _ h => h) (by rfl) (Or.inl ⟨by rfl, ?_⟩) (by assumption) ?_
    rotate_left 1
    · intro w hSw; (try dsimp only at hSw); go_simp <;> (try with_reducible rfl)
    try simp only [Act.put, List.getElem_toArray, List.getElem_cons_succ, List.getElem_cons_zero, List.setIfInBounds_toArray, List.set_cons_zero, List.set_cons_succ]
    refine wpAnyJ_take0 (i := 2) (v := ?_) rfl (by kernel_rfl) (by kernel_rfl) (by kernel_rfl) (fun _ _ _ h => h) (by rfl) (Or.inl ⟨by rfl, ?_⟩) (by assumption) ?_
    rotate_left 1
    · intro w hSw; (try dsimp only at hSw); go_simp <;> (try with_reducible rfl)
    try simp only [Act.put, List.getElem_toArray, List.getElem_cons_succ, List.getElem_cons_zero, List.setIfInBounds_toArray, List.set_cons_zero, List.set_cons_succ]
    refine wpAnyJ_take0 (i := 3) (v := ?_) rfl (by kernel_rfl) (by kernel_rfl) (by kernel_rfl) (fun _ _ _ h => h) (by rfl) (Or.inl ⟨by rfl, ?_⟩) (by assumption) ?_
    rotate_left 1
    · intro w hSw; (try dsimp only at hSw); go_simp <;> (try with_reducible rfl)
    try simp only [Act.put, List.getElem_toArray, List.getElem_cons_succ, List.getElem_cons_zero, List.setIfInBounds_toArray, List.set_cons_zero, List.set_cons_succ]
    refine wpAnyJ_take0 (i := 4) (v := ?_) rfl (by kernel_rfl) (by kernel_rfl) (by kernel_rfl) (fun _ _ _ h => h) (by rfl) (Or.inl ⟨by rfl, ?_⟩) (by assumption) ?_
    rotate_left 1
    · intro w hSw; (try dsimp only at hSw); go_simp <;> (try with_reducible rfl)
    try simp only [Act.put, List.getElem_toArray, List.getElem_cons_succ, List.getElem_cons_zero, List.setIfInBounds_toArray, List.set_cons_zero, List.set_cons_succ]
    refine wpAnyJ_take (i := 5) (v := ?_) rfl (by kernel_rfl) (by kernel_rfl) (by kernel_rfl) (fun _ _ _ h => h) (by rfl) rfl (by kernel_rfl) (by kernel_rfl) (Or.inl ⟨by rfl, ?_⟩) (by assumption) ?_
    rotate_left 1
    · intro w hSw; (try dsimp only at hSw); go_simp <;> (try with_reducible rfl)
    try simp only [Act.put, List.getElem_toArray, List.getElem_cons_succ, List.getElem_cons_zero, List.setIfInBounds_toArray, List.set_cons_zero, List.set_cons_succ]
    refine wpAnyJ_ready (rs := [1, 10]) (by kernel_rfl) (by simp) ?_
    refine AllReadyJ.cons (o := _) rfl (fun Kq hKq => ?_) ?_
    · skip
      have hcq := hcut1 WX
      go_simp
      refine hKq.out _ _ ?_ (fun hHeld => ?_)
      · intro _; (try dsimp only); (first | exact KL.out _ (bgo hb7.out hbC.out) | exact KL.out _ (bgo hb7.out (bdrew W7)) | exact KL.out _ hb7.out)
      clear hKq Kq
      try simp only [Act.put, List.getElem_toArray, List.getElem_cons_succ, List.getElem_cons_zero, List.setIfInBounds_toArray, List.set_cons_zero, List.set_cons_succ]
      refine wpAnyJ_ready (rs := [6, 10]) (by kernel_rfl) (by simp) ?_
      refine AllReadyJ.cons (o := _) rfl (fun Kq hKq => ?_) ?_
      · go_simp
        go_at_call 9
        refine (hvD.out WX (bgo hb7.out hbC.out)).mono ?_
        rintro e WX ⟨rfl, hal⟩
        replace hbC := Lib.hid (bgo hbC.out hal)
        clear hal
        go_wp2_with fail
        refine hKq.out _ _ ?_ (fun hHeld => ?_)
        · intro _; (try dsimp only); (first | exact KL.out _ (bgo hb7.out hbC.out) | exact KL.out _ (bgo hb7.out (bdrew W7)) | exact KL.out _ hb7.out)
        clear hKq Kq
        try simp only [Act.put, List.getElem_toArray, List.getElem_cons_succ, List.getElem_cons_zero, List.setIfInBounds_toArray, List.set_cons_zero, List.set_cons_succ]
        refine wpAnyJ_take0 (i := 7) (v := ?_) rfl (by kernel_rfl) (by kernel_rfl) (by kernel_rfl) (fun _ _ _ h => h) (by rfl) (Or.inl ⟨by rfl, ?_⟩) (by assumption) ?_
        rotate_left 1
        · intro w hSw; (try dsimp only at hSw); go_simp <;> (try with_reducible rfl)
        try simp only [Act.put, List.getElem_toArray, List.getElem_cons_succ, List.getElem_cons_zero, List.setIfInBounds_toArray, List.set_cons_zero, List.set_cons_succ]
        refine wpAnyJ_take0 (i := 8) (v := ?_) rfl (by kernel_rfl) (by kernel_rfl) (by kernel_rfl) (fun _ _ _ h => h) (by rfl) (Or.inl ⟨by rfl, ?_⟩) (by assumption) ?_
        rotate_left 1
        · intro w hSw; (try dsimp only at hSw); go_simp <;> (try with_reducible rfl)
        try simp only [Act.put, List.getElem_toArray, List.getElem_cons_succ, List.getElem_cons_zero, List.setIfInBounds_toArray, List.set_cons_zero, List.set_cons_succ]
        refine wpAnyJ_take0 (i := 9) (v := ?_) rfl (by kernel_rfl) (by kernel_rfl) (by kernel_rfl) (fun _ _ _ h => h) (by rfl) (Or.inl ⟨by rfl, ?_⟩) (by assumption) ?_
        rotate_left 1
        · intro w hSw; (try dsimp only at hSw); go_simp <;> (try with_reducible rfl)
        try simp only [Act.put, List.getElem_toArray, List.getElem_cons_succ, List.getElem_cons_zero, List.setIfInBounds_toArray, List.set_cons_zero, List.set_cons_succ]
        refine wpAnyJ_ready (rs := [10]) (by kernel_rfl) (by simp) ?_
        refine AllReadyJ.cons (o := _) rfl (fun Kq hKq => ?_) ?_
        · go_simp
          have hal := balloc WX (.cells #[.int .i64 0, .int .i64 0] 40)
          have x19 := Box.new WX 40 [.int .i64 0, .int .i64 0]
          have hg19 : W7.heap.size ≤ WX.heap.size := hbC.out.size
          change Box (WX.alloc (.cells #[.int .i64 0, .int .i64 0] 40)) _ _ _ at x19
          replace hbC := Lib.hid (bgo hbC.out hal)
          clear hal
          generalize WX.heap.size = g19 at *
          generalize WX.alloc (.cells #[.int .i64 0, .int .i64 0] 40) = WX at *
          refine hKq.out _ _ ?_ (fun hHeld => ?_)
          · intro _; (try dsimp only); (first | exact KL.out _ (bgo hb7.out hbC.out) | exact KL.out _ (bgo hb7.out (bdrew W7)) | exact KL.out _ hb7.out)
          clear hKq Kq
          try simp only [Act.put, List.getElem_toArray, List.getElem_cons_succ, List.getElem_cons_zero, List.setIfInBounds_toArray, List.set_cons_zero, List.set_cons_succ]
          refine wpAnyJ_ready (rs := [11]) (by kernel_rfl) (by simp) ?_
          refine AllReadyJ.cons (o := _) rfl (fun Kq hKq => ?_) ?_
          · skip
            obtain ⟨w0, w1, u0, u1⟩ := box2_cells x19
            go_simp
            refine hKq.out _ _ ?_ (fun hHeld => ?_)
            · intro hl; exact absurd hl (by decide)
            clear hKq Kq
            try simp only [Act.put, List.getElem_toArray, List.getElem_cons_succ, List.getElem_cons_zero, List.setIfInBounds_toArray, List.set_cons_zero, List.set_cons_succ]
            refine wpAnyJ_take0 (i := 12) (v := ?_) rfl (by kernel_rfl) (by kernel_rfl) (by kernel_rfl) (fun _ _ _ h => h) (by rfl) (Or.inl ⟨by rfl, ?_⟩) (by assumption) ?_
            rotate_left 1
            · intro w hSw; (try dsimp only at hSw); go_simp <;> (try with_reducible rfl)
            try simp only [Act.put, List.getElem_toArray, List.getElem_cons_succ, List.getElem_cons_zero, List.setIfInBounds_toArray, List.set_cons_zero, List.set_cons_succ]
            refine wpAnyJ_done (by kernel_rfl) ?_ _
            clear hHeld
            go_wp2_with fail
            go_meet
            exact ⟨rfl, below_set2 hbC.out hg19 _ _⟩
          exact AllReadyJ.nil
        exact AllReadyJ.nil
      refine AllReadyJ.cons (o := _) rfl (fun Kq hKq => ?_) ?_
      · go_simp
        have hal := balloc WX (.cells #[.int .i64 0, .int .i64 0] 40)
        have x19 := Box.new WX 40 [.int .i64 0, .int .i64 0]
        have hg19 : W7.heap.size ≤ WX.heap.size := hbC.out.size
        change Box (WX.alloc (.cells #[.int .i64 0, .int .i64 0] 40)) _ _ _ at x19
        replace hbC := Lib.hid (bgo hbC.out hal)
        clear hal
        generalize WX.heap.size = g19 at *
        generalize WX.alloc (.cells #[.int .i64 0, .int .i64 0] 40) = WX at *
        refine hKq.out _ _ ?_ (fun hHeld => ?_)
        · intro _; (try dsimp only); (first | exact KL.out _ (bgo hb7.out hbC.out) | exact KL.out _ (bgo hb7.out (bdrew W7)) | exact KL.out _ hb7.out)
        clear hKq Kq
        try simp only [Act.put, List.getElem_toArray, List.getElem_cons_succ, List.getElem_cons_zero, List.setIfInBounds_toArray, List.set_cons_zero, List.set_cons_succ]
        refine wpAnyJ_ready (rs := [6]) (by kernel_rfl) (by simp) ?_
        refine AllReadyJ.cons (o := _) rfl (fun Kq hKq => ?_) ?_
        · go_simp
          go_at_call 9
          refine (hvD.out WX (bgo hb7.out hbC.out)).mono ?_
          rintro e WX ⟨rfl, hal⟩
          replace x19 := x19.below hal
          replace hbC := Lib.hid (bgo hbC.out hal)
          clear hal
          go_wp2_with fail
          refine hKq.out _ _ ?_ (fun hHeld => ?_)
          · intro _; (try dsimp only); (first | exact KL.out _ (bgo hb7.out hbC.out) | exact KL.out _ (bgo hb7.out (bdrew W7)) | exact KL.out _ hb7.out)
          clear hKq Kq
          try simp only [Act.put, List.getElem_toArray, List.getElem_cons_succ, List.getElem_cons_zero, List.setIfInBounds_toArray, List.set_cons_zero, List.set_cons_succ]
          refine wpAnyJ_take0 (i := 7) (v := ?_) rfl (by kernel_rfl) (by kernel_rfl) (by kernel_rfl) (fun _ _ _ h => h) (by rfl) (Or.inl ⟨by rfl, ?_⟩) (by assumption) ?_
          rotate_left 1
          · intro w hSw; (try dsimp only at hSw); go_simp <;> (try with_reducible rfl)
          try simp only [Act.put, List.getElem_toArray, List.getElem_cons_succ, List.getElem_cons_zero, List.setIfInBounds_toArray, List.set_cons_zero, List.set_cons_succ]
          refine wpAnyJ_take0 (i := 8) (v := ?_) rfl (by kernel_rfl) (by kernel_rfl) (by kernel_rfl) (fun _ _ _ h => h) (by rfl) (Or.inl ⟨by rfl, ?_⟩) (by assumption) ?_
          rotate_left 1
          · intro w hSw; (try dsimp only at hSw); go_simp <;> (try with_reducible rfl)
          try simp only [Act.put, List.getElem_toArray, List.getElem_cons_succ, List.getElem_cons_zero, List.setIfInBounds_toArray, List.set_cons_zero, List.set_cons_succ]
          refine wpAnyJ_take0 (i := 9) (v := ?_) rfl (by kernel_rfl) (by kernel_rfl) (by kernel_rfl) (fun _ _ _ h => h) (by rfl) (Or.inl ⟨by rfl, ?_⟩) (by assumption) ?_
          rotate_left 1
          · intro w hSw; (try dsimp only at hSw); go_simp <;> (try with_reducible rfl)
          try simp only [Act.put, List.getElem_toArray, List.getElem_cons_succ, List.getElem_cons_zero, List.setIfInBounds_toArray, List.set_cons_zero, List.set_cons_succ]
          refine wpAnyJ_ready (rs := [11]) (by kernel_rfl) (by simp) ?_
          refine AllReadyJ.cons (o := _) rfl (fun Kq hKq => ?_) ?_
          · skip
            obtain ⟨w0, w1, u0, u1⟩ := box2_cells x19
            go_simp
            refine hKq.out _ _ ?_ (fun hHeld => ?_)
            · intro hl; exact absurd hl (by decide)
            clear hKq Kq
            try simp only [Act.put, List.getElem_toArray, List.getElem_cons_succ, List.getElem_cons_zero, List.setIfInBounds_toArray, List.set_cons_zero, List.set_cons_succ]
            refine wpAnyJ_take0 (i := 12) (v := ?_) rfl (by kernel_rfl) (by kernel_rfl) (by kernel_rfl) (fun _ _ _ h => h) (by rfl) (Or.inl ⟨by rfl, ?_⟩) (by assumption) ?_
            rotate_left 1
            · intro w hSw; (try dsimp only at hSw); go_simp <;> (try with_reducible rfl)
            try simp only [Act.put, List.getElem_toArray, List.getElem_cons_succ, List.getElem_cons_zero, List.setIfInBounds_toArray, List.set_cons_zero, List.set_cons_succ]
            refine wpAnyJ_done (by kernel_rfl) ?_ _
            clear hHeld
            go_wp2_with fail
            go_meet
            exact ⟨rfl, below_set2 hbC.out hg19 _ _⟩
          exact AllReadyJ.nil
        exact AllReadyJ.nil
      exact AllReadyJ.nil
    refine AllReadyJ.cons (o := _) rfl (fun Kq hKq => ?_) ?_
    · go_simp
      have hal := balloc WX (.cells #[.int .i64 0, .int .i64 0] 40)
      have x19 := Box.new WX 40 [.int .i64 0, .int .i64 0]
      have hg19 : W7.heap.size ≤ WX.heap.size := hbC.out.size
      change Box (WX.alloc (.cells #[.int .i64 0, .int .i64 0] 40)) _ _ _ at x19
      replace hbC := Lib.hid (bgo hbC.out hal)
      clear hal
      generalize WX.heap.size = g19 at *
      generalize WX.alloc (.cells #[.int .i64 0, .int .i64 0] 40) = WX at *
      refine hKq.out _ _ ?_ (fun hHeld => ?_)
      · intro _; (try dsimp only); (first | exact KL.out _ (bgo hb7.out hbC.out) | exact KL.out _ (bgo hb7.out (bdrew W7)) | exact KL.out _ hb7.out)
      clear hKq Kq
      try simp only [Act.put, List.getElem_toArray, List.getElem_cons_succ, List.getElem_cons_zero, List.setIfInBounds_toArray, List.set_cons_zero, List.set_cons_succ]
      refine wpAnyJ_ready (rs := [1]) (by kernel_rfl) (by simp) ?_
      refine AllReadyJ.cons (o := _) rfl (fun Kq hKq => ?_) ?_
      · skip
        have hcq := hcut1 WX
        go_simp
        refine hKq.out _ _ ?_ (fun hHeld => ?_)
        · intro _; (try dsimp only); (first | exact KL.out _ (bgo hb7.out hbC.out) | exact KL.out _ (bgo hb7.out (bdrew W7)) | exact KL.out _ hb7.out)
        clear hKq Kq
        try simp only [Act.put, List.getElem_toArray, List.getElem_cons_succ, List.getElem_cons_zero, List.setIfInBounds_toArray, List.set_cons_zero, List.set_cons_succ]
        refine wpAnyJ_ready (rs := [6]) (by kernel_rfl) (by simp) ?_
        refine AllReadyJ.cons (o := _) rfl (fun Kq hKq => ?_) ?_
        · go_simp
          go_at_call 9
          refine (hvD.out WX (bgo hb7.out hbC.out)).mono ?_
          rintro e WX ⟨rfl, hal⟩
          replace x19 := x19.below hal
          replace hbC := Lib.hid (bgo hbC.out hal)
          clear hal
          go_wp2_with fail
          refine hKq.out _ _ ?_ (fun hHeld => ?_)
          · intro _; (try dsimp only); (first | exact KL.out _ (bgo hb7.out hbC.out) | exact KL.out _ (bgo hb7.out (bdrew W7)) | exact KL.out _ hb7.out)
          clear hKq Kq
          try simp only [Act.put, List.getElem_toArray, List.getElem_cons_succ, List.getElem_cons_zero, List.setIfInBounds_toArray, List.set_cons_zero, List.set_cons_succ]
          refine wpAnyJ_take0 (i := 7) (v := ?_) rfl (by kernel_rfl) (by kernel_rfl) (by kernel_rfl) (fun _ _ _ h => h) (by rfl) (Or.inl ⟨by rfl, ?_⟩) (by assumption) ?_
          rotate_left 1
          · intro w hSw; (try dsimp only at hSw); go_simp <;> (try with_reducible rfl)
          try simp only [Act.put, List.getElem_toArray, List.getElem_cons_succ, List.getElem_cons_zero, List.setIfInBounds_toArray, List.set_cons_zero, List.set_cons_succ]
          refine wpAnyJ_take0 (i := 8) (v := ?_) rfl (by kernel_rfl) (by kernel_rfl) (by kernel_rfl) (fun _ _ _ h => h) (by rfl) (Or.inl ⟨by rfl, ?_⟩) (by assumption) ?_
          rotate_left 1
          · intro w hSw; (try dsimp only at hSw); go_simp <;> (try with_reducible rfl)
          try simp only [Act.put, List.getElem_toArray, List.getElem_cons_succ, List.getElem_cons_zero, List.setIfInBounds_toArray, List.set_cons_zero, List.set_cons_succ]
          refine wpAnyJ_take0 (i := 9) (v := ?_) rfl (by kernel_rfl) (by kernel_rfl) (by kernel_rfl) (fun _ _ _ h => h) (by rfl) (Or.inl ⟨by rfl, ?_⟩) (by assumption) ?_
          rotate_left 1
          · intro w hSw; (try dsimp only at hSw); go_simp <;> (try with_reducible rfl)
          try simp only [Act.put, List.getElem_toArray, List.getElem_cons_succ, List.getElem_cons_zero, List.setIfInBounds_toArray, List.set_cons_zero, List.set_cons_succ]
          refine wpAnyJ_ready (rs := [11]) (by kernel_rfl) (by simp) ?_
          refine AllReadyJ.cons (o := _) rfl (fun Kq hKq => ?_) ?_
          · skip
            obtain ⟨w0, w1, u0, u1⟩ := box2_cells x19
            go_simp
            refine hKq.out _ _ ?_ (fun hHeld => ?_)
            · intro hl; exact absurd hl (by decide)
            clear hKq Kq
            try simp only [Act.put, List.getElem_toArray, List.getElem_cons_succ, List.getElem_cons_zero, List.setIfInBounds_toArray, List.set_cons_zero, List.set_cons_succ]
            refine wpAnyJ_take0 (i := 12) (v := ?_) rfl (by kernel_rfl) (by kernel_rfl) (by kernel_rfl) (fun _ _ _ h => h) (by rfl) (Or.inl ⟨by rfl, ?_⟩) (by assumption) ?_
            rotate_left 1
            · intro w hSw; (try dsimp only at hSw); go_simp <;> (try with_reducible rfl)
            try simp only [Act.put, List.getElem_toArray, List.getElem_cons_succ, List.getElem_cons_zero, List.setIfInBounds_toArray, List.set_cons_zero, List.set_cons_succ]
            refine wpAnyJ_done (by kernel_rfl) ?_ _
            clear hHeld
            go_wp2_with fail
            go_meet
            exact ⟨rfl, below_set2 hbC.out hg19 _ _⟩
          exact AllReadyJ.nil
        exact AllReadyJ.nil
      exact AllReadyJ.nil
    exact AllReadyJ.nil
  case rest =>
  obtain ⟨rfl, hcb⟩ := hcut
  obtain ⟨WZ, rfl⟩ : ∃ W : World, W = wc := ⟨_, rfl⟩
  replace x13 := x13.out.below hcb
  have hkn2 := Lib.hid (fun W => hkn.out W)
  replace hbw := Lib.hid (bgo hbw.out (bgo hb7.out hcb))
  clear hcut1 hvD hver z0 z1 KL hkn
  go_wp2_with fail
  refine (hkn2.out _).mono ?_
  rintro e W9 ⟨rfl, hb9⟩
  obtain ⟨e0, e1, -, -⟩ := box2_cells (x13.below hb9)
  replace hbw := Lib.hid (bgo hbw.out hb9)
  clear hb9 x13 hcb hb7
  dsimp only
  go_wp2_with fail
  go_ret
  exact ⟨rfl, hbw.out⟩
end Go.Proofs.YtamdgjgommejjaaGreat

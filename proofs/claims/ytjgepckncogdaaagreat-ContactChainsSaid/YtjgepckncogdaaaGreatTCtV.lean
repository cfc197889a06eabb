/- What a law leans on beyond the base: contracts, plain functions, walks. Conditions: those of each theorem. -/
import Derived.Test.YtjgepckncogdaaaGreatTOwnRF
import Derived.Test.YtjgepckncogdaaaGreatTCtP
import Derived.Test.YtjgepckncogdaaaGreatTCtA
import Derived.Test.YtjgepckncogdaaaGreatTCtU
import Derived.Test.YtjgepckncogdaaaGreatTCtY
set_option linter.unusedVariables false
set_option linter.unusedSimpArgs false
namespace Go.Proofs.YtjgepckncogdaaaGreat
open Go Go.RowKit
set_option linter.unusedVariables false
set_option linter.unusedSimpArgs false
attribute [local go_sem ↓] Go.wp_at_zero Go.wp_at_succ
def SpanC (g g9 : Nat) (u : Value) (l : List Int) (w4 : World) (lo hi : Int) (W : World) : Prop :=
 ∃ k, Box W g9 24 [.int .i64 lo, .int .i64 hi] ∧ TapeAt W g u l k ∧ w4.grownBy W (some g)
theorem tape_set1 {W : World} {g g4 j : Nat} {u : Value} {l : List Int} {k : Nat} (h : TapeAt W g u l k) (hg : g < g4) (y : Value) : TapeAt (W.setCell ⟨g4, j, none⟩ y) g u l k := by
 obtain ⟨h1, h2, h3⟩ := h
 exact ⟨h1.other (by omega), Sees.below h2 ((Below.refl g W).setCell (p := ⟨g4, j, none⟩) (Nat.le_of_lt hg) y), h3⟩
set_option maxRecDepth 100000 in
set_option maxHeartbeats 8000000 in
theorem cchains_law (v : Int) (wf0 : (Lit.int .i64 v).wf = true) (B : Nat) (u : Value) (l : List Int) (w : World) (s : SeesT w B u l) (hB : B ≤ w.heap.size) (at_ : Int) (wf1 : (Lit.int .i64 at_).wf = true) (by_ : Int) (wf2 : (Lit.int .i64 by_).wf = true) (how : Int) (wf3 : (Lit.int .i64 how).wf = true) :
 Calls Tryz.prog 6 #[.int .i64 v, u, .int .i64 at_, .int .i64 by_, .int .i64 how] w fun e w' => e = .returned (.bool true) ∧ Below w.heap.size w w' := by
 obtain ⟨Ar, cr, rfl, -, -⟩ := s.mk_
 clear wf0 wf1 wf2 wf3
 have hkn := Lib.hid (fun W => ckn_any W)
 have hnew := Lib.hid (tnew_any _ l w (Sees.more s hB))
 have hin := Lib.hid (fun g (n : Int) (hn : 1 ≤ n) (hn2 : n ≤ 1048576) W k (h : TapeAt W g (.slice Ar l.length cr) l k) => tint_any g _ l k n W h hn hn2)
 have hwi := Lib.hid (fun (v m : Int) (h1 : 1 ≤ m) (h2 : m ≤ 4294967296) W => kwithin_any v m h1 h2 W)
 have hfl := Lib.hid (fun u (l : Bs) W (hu : SeesB W W.heap.size u l) (hl : l.length ≤ 1048576) => kflip_any u l at_ by_ W hu hl)
 obtain ⟨q, hq, hq2⟩ := kmod_nat how 8 (by omega)
 have hw7 := fun W => hwi.out how 8 (by omega) (by omega) W
 rw [hq] at hw7
 replace hw7 := Lib.hid hw7
 replace hq2 := Lib.hid hq2
 clear s hB hq
 go_enter Tryz.func6, Tryz.ntmps6
 go_wp2_with fail
 refine hnew.out.mono ?_
 rintro e w1 ⟨rfl, t1, hb1, hgl1⟩
 have hwin := Lib.hid (kwindows_any _ _ l 0 w1 t1)
 have hgw := Lib.hid (Nat.le_refl w.heap.size)
 generalize hgg : w.heap.size = g at t1 hwin hgl1 ⊢
 replace hgg := Lib.hid hgg
 replace hgl1 := Lib.hid hgl1
 clear hnew t1 hgw
 dsimp only
 go_wp2_with fail
 refine hwin.out.mono ?_
 rintro e w2 ⟨v2, ws, k2, rfl, o2, hw1, hw3, hsm, t2, g2⟩
 have hb2 := Lib.hid (below_tape hb1 g2 (Nat.le_of_eq hgg.out) hb1.size)
 have ss2 := Sees.of_own o2
 have hvv : ∀ k, k < ws.length → vS (ws.getD k (0, 0)).1 (ws.getD k (0, 0)).2 = true := fun k hk => by
  have hm : ws.getD k (0, 0) ∈ ws := by rw [List.getD_eq_getElem?_getD, List.getElem?_eq_getElem hk]; exact List.getElem_mem hk
  have := hsm _ hm
  rw [vS_iff]; omega
 have hcer := Lib.hid (kcerts2_any v w2.heap.size v2 ws w2 ss2 (Nat.le_refl _) (by omega) (by omega) hvv)
 obtain ⟨A2, c2, rfl, -, -⟩ := ss2.mk_
 have hz2 : Hid (g < w2.heap.size) := Nat.lt_of_lt_of_le hgl1.out g2.size
 replace t2 := Lib.hid t2
 clear ss2 hwin hb1 g2 hsm hvv o2
 dsimp only
 go_wp2_with fail
 refine hcer.out.mono ?_
 rintro e w3 ⟨v3, v4, G, rfl, o3, r3, f3, hb3, hG1, hG2⟩
 have hcs := honL_len v ws ws.length
 have hel : ∀ c ∈ honL v ws ws.length, c.2.1.length ≤ 1048576 ∧ c.2.2.2.2.length ≤ 1048576 := fun c hc => by
  unfold honL at hc
  rw [List.mem_map] at hc
  obtain ⟨k, -, rfl⟩ := hc
  exact ⟨by show (keyG _ _).length ≤ _; rw [keyG_len]; omega, by show (sigG _ _ _ _).length ≤ _; rw [sigG_len]; omega⟩
 generalize honL v ws ws.length = cs at *
 generalize keyG (seedC v 0) 0 = R at *
 obtain ⟨A4, c4, rfl, -, -⟩ := SeesB.mk_ r3
 obtain ⟨g3, c3, rfl, hgb, hgl, hc1, hc2⟩ := o3.at_ (by omega)
 have hgG : g < G := Nat.lt_of_lt_of_le hz2.out hG1
 have h5 : ws.length ≤ 5 := by omega
 have hN3 : ws.length ≤ 3 := by omega
 have hk0 : 0 < cs.length := by omega
 obtain ⟨i, hi, hi2⟩ := kmod_nat at_ (ws.length : Int) (by omega)
 have hwi2 := hwi.out at_ (ws.length : Int) (by omega) (by omega) w3
 rw [hi] at hwi2
 have hiN : i < cs.length := by omega
 replace hwi2 := Lib.hid hwi2
 replace hi := Lib.hid hi
 replace hel := Lib.hid hel
 replace o3 := Lib.hid o3
 replace r3 := Lib.hid r3
 replace f3 := Lib.hid f3
 replace hb3 := Lib.hid hb3
 clear hcer
 dsimp only
 go_wp2_with fail
 refine hwi2.out.mono ?_
 rintro e w5 ⟨rfl, hw⟩
 obtain rfl := hw.symm
 dsimp only
 go_wp2_with fail
 refine (hw7.out _).mono ?_
 rintro e w5 ⟨rfl, hw⟩
 obtain rfl := hw.symm
 clear hw7 hwi2 hwi hi
 dsimp only
 go_upto_block 0 with (fail)
 go_cut [12] (fun v12 W => CsS w3 G g v12 W)
 case first =>
  have h7 := hq2.out
  obtain ⟨B0, d0, B1, d1, z0, z1, z2, z3, z4, ea⟩ := own_cert o3.out (by omega) i hiN
  replace ea := Lib.hid ea
  have j1 : (i : Int) < (ws.length : Int) := by omega
  have j0 : (0 : Int) ≤ (i : Int) := by omega
  have hzz : True := trivial
  obtain rfl | rfl | rfl | rfl | rfl | hq5 : q = 0 ∨ q = 1 ∨ q = 2 ∨ q = 3 ∨ q = 4 ∨ 5 ≤ q := by omega
  · have hf := Lib.hid (hfl.out _ _ w3 ea.out.2.2.2.2.1.1 (hel.out _ (certT_mem cs i hiN)).2)
    have hset := Lib.hid (certS_put4 cs i)
    have hbt := hel.out _ (certT_mem cs i hiN)
    clear hzz
    go_wp2_with fail
    refine hf.out.mono ?_
    rintro e6 w6 ⟨l', hl', v6, rfl, o6, hb6⟩
    obtain ⟨A6, c6, rfl, -, -⟩ := o6.sees.mk_
    have k0 := (hb6.cell (p := ⟨g3, i * 5 + 4, none⟩) hgl).trans z4
    have fz := (o3.out.below hb6).frozen (i * 5 + 4)
    have hdone : Hid (CsS w3 G g (.slice (some ⟨g3, 0, none⟩) ws.length c3) (w6.setCell ⟨g3, i * 5 + 4, none⟩ (.slice A6 l'.length c6))) := by
     have hp := (o3.out.below hb6).put (j := i * 5 + 4) (s := .byt l') (by omega) (EltS.of_from o6.sees o6.from (fun j hj => by cases hj; exact hgl)) (o6.from.mono hG2)
     rw [hset.out l' hiN] at hp
     exact csS_of hp (by rw [List.length_set]; exact hcs) hgG h5 (set_lenC (P := fun c : CertG => c.2.1.length ≤ 1048576 ∧ c.2.2.2.2.length ≤ 1048576) hel.out i _ ⟨hbt.1, by have := hbt.2; dsimp only; omega⟩) ((hb6.mono hG2).setCell (p := ⟨g3, i * 5 + 4, none⟩) hgb _)
    replace hl' := Lib.hid hl'
    replace hbt := Lib.hid hbt
    clear z0 z1 z2 z3 z4
    dsimp only
    go_wp2_with fail
    go_meet
    exact hdone.out
  · have hf := Lib.hid (hfl.out _ _ w3 ea.out.2.1.1.1 (hel.out _ (certT_mem cs i hiN)).1)
    have hset := Lib.hid (certS_put1 cs i)
    have hbt := hel.out _ (certT_mem cs i hiN)
    clear hzz
    go_wp2_with fail
    refine hf.out.mono ?_
    rintro e6 w6 ⟨l', hl', v6, rfl, o6, hb6⟩
    obtain ⟨A6, c6, rfl, -, -⟩ := o6.sees.mk_
    have k0 := (hb6.cell (p := ⟨g3, i * 5 + 1, none⟩) hgl).trans z1
    have fz := (o3.out.below hb6).frozen (i * 5 + 1)
    have hdone : Hid (CsS w3 G g (.slice (some ⟨g3, 0, none⟩) ws.length c3) (w6.setCell ⟨g3, i * 5 + 1, none⟩ (.slice A6 l'.length c6))) := by
     have hp := (o3.out.below hb6).put (j := i * 5 + 1) (s := .byt l') (by omega) (EltS.of_from o6.sees o6.from (fun j hj => by cases hj; exact hgl)) (o6.from.mono hG2)
     rw [hset.out l' hiN] at hp
     exact csS_of hp (by rw [List.length_set]; exact hcs) hgG h5 (set_lenC (P := fun c : CertG => c.2.1.length ≤ 1048576 ∧ c.2.2.2.2.length ≤ 1048576) hel.out i _ ⟨by have := hbt.1; dsimp only; omega, hbt.2⟩) ((hb6.mono hG2).setCell (p := ⟨g3, i * 5 + 1, none⟩) hgb _)
    replace hl' := Lib.hid hl'
    replace hbt := Lib.hid hbt
    clear z0 z1 z2 z3 z4
    dsimp only
    go_wp2_with fail
    go_meet
    exact hdone.out
  · have fz := fun j => o3.out.frozen j
    have j3 : (0 : Int) < (ws.length : Int) := by omega
    obtain rfl | hi0 : i = 0 ∨ 0 < i := by omega
    · have hdone := Lib.hid (cswap_done (w3 := w3) (W := w3) o3.out hcs hgG hgb hG2 h5 hel.out 0 hiN hk0 ea.out ea.out (Below.refl _ _)).drew
      unfold wr5 at hdone
      simp only [Nat.zero_mul, Nat.zero_add] at z0 z1 z2 z3 z4 hdone
      generalize (certT cs 0).1 = n0 at *
      generalize (certT cs 0).2.1.length = n1 at *
      generalize (certT cs 0).2.2.1 = n2 at *
      generalize (certT cs 0).2.2.2.1 = n3 at *
      generalize (certT cs 0).2.2.2.2.length = n4 at *
      clear ea
      go_wp2_with fail
      go_upto_region 10 with (fail)
      go_big_region
      all_goals
       go_wp2_with fail
       go_meet
       exact hdone.out
    obtain ⟨D0, f0, D1, f1, y0, y1, y2, y3, y4, eb⟩ := own_cert o3.out (by omega) 0 hk0
    simp only [Nat.zero_mul, Nat.zero_add] at y0 y1 y2 y3 y4
    have hdone := Lib.hid (cswap_done (w3 := w3) (W := w3) o3.out hcs hgG hgb hG2 h5 hel.out i hiN hk0 ea.out eb (Below.refl _ _)).drew
    unfold wr5 at hdone
    simp only [Nat.zero_add] at hdone
    generalize (certT cs i).1 = n0 at *
    generalize (certT cs i).2.1.length = n1 at *
    generalize (certT cs i).2.2.1 = n2 at *
    generalize (certT cs i).2.2.2.1 = n3 at *
    generalize (certT cs i).2.2.2.2.length = n4 at *
    generalize (certT cs 0).1 = m0 at *
    generalize (certT cs 0).2.1.length = m1 at *
    generalize (certT cs 0).2.2.1 = m2 at *
    generalize (certT cs 0).2.2.2.1 = m3 at *
    generalize (certT cs 0).2.2.2.2.length = m4 at *
    clear ea eb
    obtain rfl | rfl : i = 1 ∨ i = 2 := by omega
    all_goals
     simp only [Nat.reduceMul, Nat.reduceAdd] at z0 z1 z2 z3 z4 hdone
     go_wp2_with fail
     go_upto_region 10 with (fail)
     go_big_region
     all_goals
      go_wp2_with fail
      go_meet
      exact hdone.out
  · have hrc := run_cut_from (P := Tryz.prog) 64 Tryz.underlying64 5 cert_size (some ⟨g3, 0, none⟩) ws.length c3 .i64 (i : Int) j0 (by omega)
    rw [Int.toNat_natCast] at hrc
    have hdone : Hid (CsS w3 G g (.slice (cutA (some ⟨g3, 0, none⟩) c3 i 5) (ws.length - i) (c3 - i)) w3) := csS_cut o3.out hcs hgG h5 (by omega) hel.out (Below.refl _ _)
    generalize cutA (some ⟨g3, 0, none⟩) c3 i 5 = A9 at *
    clear z0 z1 z2 z3 z4 ea
    go_wp2_with fail
    go_meet
    exact hdone.out
  · obtain ⟨B1, d1, B2, d2, y0, y1, y2, y3, y4, eb⟩ := own_cert o3.out (by omega) 0 hk0
    simp only [Nat.zero_mul, Nat.zero_add] at y0 y1 y2 y3 y4
    have j3 : (0 : Int) < (ws.length : Int) := by omega
    have j4 : 0 < ws.length := by omega
    obtain ⟨ti, hti, htz, hts, htb⟩ := info_parts cert_info
    replace hti := Lib.hid hti
    replace htz := Lib.hid htz
    replace hts := Lib.hid hts
    replace htb := Lib.hid htb
    generalize hS0 : strB (certT cs 0).1 = S0 at *
    generalize hL1 : (certT cs 0).2.1.length = L1 at *
    generalize hf0 : (certT cs 0).2.2.1 = f0 at *
    generalize ht0 : (certT cs 0).2.2.2.1 = t0 at *
    generalize hL2 : (certT cs 0).2.2.2.2.length = L2 at *
    replace eb := Lib.hid eb
    have K : Hid (∀ W : World, Below w3.heap.size w3 W → W.cell? ⟨g3, 0, none⟩ = some (.string S0) ∧ W.cell? ⟨g3, 1, none⟩ = some (.slice B1 L1 d1) ∧ W.cell? ⟨g3, 2, none⟩ = some (.int .i64 f0) ∧ W.cell? ⟨g3, 3, none⟩ = some (.int .i64 t0) ∧ W.cell? ⟨g3, 4, none⟩ = some (.slice B2 L2 d2)) := fun W hW =>
     ⟨(hW.cell (p := ⟨g3, 0, none⟩) hgl).trans y0, (hW.cell (p := ⟨g3, 1, none⟩) hgl).trans y1, (hW.cell (p := ⟨g3, 2, none⟩) hgl).trans y2, (hW.cell (p := ⟨g3, 3, none⟩) hgl).trans y3, (hW.cell (p := ⟨g3, 4, none⟩) hgl).trans y4⟩
    clear z0 z1 z2 z3 z4 ea y0 y1 y2 y3 y4 hS0 hL1 hf0 ht0 hL2
    go_wp2_with fail
    go_upto_region 14 with (fail)
    refine wp_region_J (fun W' : World => W'.cell? ⟨g3, 0, none⟩ = some (.string S0) ∧ W'.cell? ⟨g3, 1, none⟩ = some (.slice B1 L1 d1) ∧ W'.cell? ⟨g3, 2, none⟩ = some (.int .i64 f0) ∧ W'.cell? ⟨g3, 3, none⟩ = some (.int .i64 t0) ∧ W'.cell? ⟨g3, 4, none⟩ = some (.slice B2 L2 d2)) 7 (by kernel_rfl) ?_ (fun hHeld => ?_)
    · (try dsimp only); (first | exact K.out _ hbX | exact K.out _ (bdrew w3) | exact K.out _ (Below.refl _ _))
    refine wpAnyJ_take0 (i := 0) (v := ?_) rfl (by kernel_rfl) (by kernel_rfl) (by kernel_rfl) (fun _ _ _ h => h) (by rfl) (Or.inl ⟨by rfl, ?_⟩) (by assumption) ?_
    rotate_left 1
    · intro w hSw; (try dsimp only at hSw); go_simp <;> (try with_reducible rfl)
    try simp only [Act.put, List.getElem_toArray, List.getElem_cons_succ, List.getElem_cons_zero, List.setIfInBounds_toArray, List.set_cons_zero, List.set_cons_succ]
    refine wpAnyJ_take0 (i := 1) (v := ?_) rfl (by kernel_rfl) (by kernel_rfl) (by kernel_rfl) (fun _ _ _ h => h) (by rfl) (Or.inl ⟨by rfl, ?_⟩) (by assumption) ?_
    rotate_left 1
    · intro w hSw; (try dsimp only at hSw); go_simp <;> (try with_reducible rfl)
    try simp only [Act.put, List.getElem_toArray, List.getElem_cons_succ, List.getElem_cons_zero, List.setIfInBounds_toArray, List.set_cons_zero, List.set_cons_succ]
    refine wpAnyJ_take0 (i := 2) (v := ?_) rfl (by kernel_rfl) (by kernel_rfl) (by kernel_rfl) (fun _ _ _ h => h) (by rfl) (Or.inl ⟨by rfl, ?_⟩) (by assumption) ?_
    rotate_left 1
    · intro w hSw; (try dsimp only at hSw); go_simp <;> (try with_reducible rfl)
    try simp only [Act.put, List.getElem_toArray, List.getElem_cons_succ, List.getElem_cons_zero, List.setIfInBounds_toArray, List.set_cons_zero, List.set_cons_succ]
    refine wpAnyJ_take (i := 3) (v := ?_) rfl (by kernel_rfl) (by kernel_rfl) (by kernel_rfl) (fun _ _ _ h => h) (by rfl) rfl (by kernel_rfl) (by kernel_rfl) (Or.inl ⟨by rfl, ?_⟩) (by assumption) ?_
    rotate_left 1
    · intro w hSw; (try dsimp only at hSw); go_simp <;> (try with_reducible rfl)
    try simp only [Act.put, List.getElem_toArray, List.getElem_cons_succ, List.getElem_cons_zero, List.setIfInBounds_toArray, List.set_cons_zero, List.set_cons_succ]
    refine wpAnyJ_take0 (i := 4) (v := ?_) rfl (by kernel_rfl) (by kernel_rfl) (by kernel_rfl) (fun _ _ _ h => h) (by rfl) (Or.inl ⟨by rfl, ?_⟩) (by assumption) ?_
    rotate_left 1
    · intro w hSw; (try dsimp only at hSw); go_simp <;> (try with_reducible rfl)
    try simp only [Act.put, List.getElem_toArray, List.getElem_cons_succ, List.getElem_cons_zero, List.setIfInBounds_toArray, List.set_cons_zero, List.set_cons_succ]
    refine wpAnyJ_take0 (i := 5) (v := ?_) rfl (by kernel_rfl) (by kernel_rfl) (by kernel_rfl) (fun _ _ _ h => h) (by rfl) (Or.inl ⟨by rfl, ?_⟩) (by assumption) ?_
    rotate_left 1
    · intro w hSw; (try dsimp only at hSw); go_simp <;> (try with_reducible rfl)
    try simp only [Act.put, List.getElem_toArray, List.getElem_cons_succ, List.getElem_cons_zero, List.setIfInBounds_toArray, List.set_cons_zero, List.set_cons_succ]
    refine wpAnyJ_take (i := 6) (v := ?_) rfl (by kernel_rfl) (by kernel_rfl) (by kernel_rfl) (fun _ _ _ h => h) (by rfl) rfl (by kernel_rfl) (by kernel_rfl) (Or.inl ⟨by rfl, ?_⟩) (by assumption) ?_
    rotate_left 1
    · intro w hSw; (try dsimp only at hSw); go_simp <;> (try with_reducible rfl)
    try simp only [Act.put, List.getElem_toArray, List.getElem_cons_succ, List.getElem_cons_zero, List.setIfInBounds_toArray, List.set_cons_zero, List.set_cons_succ]
    refine wpAnyJ_ready (rs := [7]) (by kernel_rfl) (by simp) ?_
    refine AllReadyJ.cons (o := _) rfl (fun Kq hKq => ?_) ?_
    · go_simp
      have hal := balloc w3.drew (.cells #[.string S0, .slice B1 L1 d1, .int .i64 f0, .int .i64 t0, .slice B2 L2 d2, .string S0, .slice B1 L1 d1, .int .i64 f0, .int .i64 t0, .slice B2 L2 d2] 70)
      have hbX := bgo (bdrew w3) hal
      have hoX := o3.out.below hbX
      have htw : Sees (w3.drew.alloc (.cells #[.string S0, .slice B1 L1 d1, .int .i64 f0, .int .i64 t0, .slice B2 L2 d2, .string S0, .slice B1 L1 d1, .int .i64 f0, .int .i64 t0, .slice B2 L2 d2] 70)) (w3.drew.heap.size + 1) (.slice (some ⟨w3.drew.heap.size, 0, none⟩) 2 2) 5 2 [.string S0, .slice B1 L1 d1, .int .i64 f0, .int .i64 t0, .slice B2 L2 d2, .string S0, .slice B1 L1 d1, .int .i64 f0, .int .i64 t0, .slice B2 L2 d2] := two_lit w3.drew 70 [.string S0, .slice B1 L1 d1, .int .i64 f0, .int .i64 t0, .slice B2 L2 d2, .string S0, .slice B1 L1 d1, .int .i64 f0, .int .i64 t0, .slice B2 L2 d2] rfl
      have hel2 := two_elts (eb.out.mono fun e => e.below hbX)
      refine hKq.out _ _ ?_ (fun hHeld => ?_)
      · intro hl; exact absurd hl (by decide)
      clear hKq Kq
      try simp only [Act.put, List.getElem_toArray, List.getElem_cons_succ, List.getElem_cons_zero, List.setIfInBounds_toArray, List.set_cons_zero, List.set_cons_succ]
      refine wpAnyJ_ready (rs := [8]) (by kernel_rfl) (by simp) ?_
      refine AllReadyJ.cons (o := _) rfl (fun Kq hKq => ?_) ?_
      · skip
        refine step_appRF (by rfl) (.tmp 88) (.tmp 95) 64 70 Tryz.underlying64 (by rfl) ti _ 5 80 hti.out htz.out hts.out htb.out (by rfl) (by omega) (by omega) G _ ws.length _ (by rfl) hoX _ _ 2 _ (certS (certT cs 0 :: certT cs 0 :: [])) (by rfl) htw (by rfl) hel2 (by omega) (Nat.le_trans hG2 hbX.size) ?_
        intro v5 W5 ho5 hb5 hgr5
        obtain ⟨Bo, d, rfl, -, -⟩ := ho5.own.sees.mk_
        have hdone : CsS w3 G g (.slice Bo (ws.length + 2) d) W5 := csS_app hk0 ho5 hcs hgG hN3 hel.out ((hbX.mono hG2).trans hb5)
        refine hKq.out _ _ ?_ (fun hHeld => ?_)
        · intro hl; exact absurd hl (by decide)
        clear hKq Kq
        try simp only [Act.put, List.getElem_toArray, List.getElem_cons_succ, List.getElem_cons_zero, List.setIfInBounds_toArray, List.set_cons_zero, List.set_cons_succ]
        refine wpAnyJ_take0 (i := 9) (v := ?_) rfl (by kernel_rfl) (by kernel_rfl) (by kernel_rfl) (fun _ _ _ h => h) (by rfl) (Or.inl ⟨by rfl, ?_⟩) (by assumption) ?_
        rotate_left 1
        · intro w hSw; (try dsimp only at hSw); go_simp <;> (try with_reducible rfl)
        try simp only [Act.put, List.getElem_toArray, List.getElem_cons_succ, List.getElem_cons_zero, List.setIfInBounds_toArray, List.set_cons_zero, List.set_cons_succ]
        refine wpAnyJ_done (by kernel_rfl) ?_ _
        go_wp2_with fail
        go_meet
        exact hdone
      exact AllReadyJ.nil
    exact AllReadyJ.nil
  · have hdone : Hid (CsS w3 G g (.slice (some ⟨g3, 0, none⟩) ws.length c3) w3) := csS_of o3.out hcs hgG h5 hel.out (Below.refl _ _)
    have n0 : ¬ (q : Int) = 0 := by omega
    have n1 : ¬ (q : Int) = 1 := by omega
    have n2 : ¬ (q : Int) = 2 := by omega
    have n3 : ¬ (q : Int) = 3 := by omega
    have n4 : ¬ (q : Int) = 4 := by omega
    clear z0 z1 z2 z3 z4 ea
    go_wp2_with fail
    go_meet
    exact hdone.out
 case rest =>
 obtain ⟨cs2, s2, hl2, he2, hb4⟩ := hcut
 obtain ⟨W3, rfl⟩ : ∃ W3 : World, W3 = wc := ⟨_, rfl⟩
 obtain ⟨A9, c9, rfl, -, -⟩ := (s2 W3 (grown_of_below (Below.refl _ _) _)).mk_
 have hb23 := hb3.out.trans (hb4.mono hG1)
 have t3 := t2.out.grown hb23
 have r33 : SeesB W3 W3.heap.size (.slice A4 R.length c4) R := SeesB.more (SeesB.below r3.out hb4) (Nat.le_trans hG2 hb4.size)
 have hbw3 := bgo hb2.out hb23
 have hz3 := Nat.lt_of_lt_of_le hz2.out hb23.size
 have hi3 := Lib.hid (hin.out g 60 (by omega) (by omega) W3 _ t3)
 replace s2 := Lib.hid s2
 replace he2 := Lib.hid he2
 replace r33 := Lib.hid r33
 replace hbw3 := Lib.hid hbw3
 clear hb23 t3 t2 r3 hb4 hi2 hc1 hc2 hgl hgb hN3 hiN hk0 hel o3 hb3 hfl hq2 hcs h5 hgG
 go_wp2_with fail
 refine hi3.out.mono ?_
 rintro e w4 ⟨rfl, t4, g4⟩
 have a1 := Int.emod_nonneg (l.getD k2 0) (show (60 : Int) ≠ 0 by omega)
 have a2 := Int.emod_lt_of_pos (l.getD k2 0) (show (0 : Int) < 60 by omega)
 have hbw4 := below_tape hbw3.out g4 (Nat.le_of_eq hgg.out) hbw3.out.size
 have hz4 := Nat.lt_of_lt_of_le hz3 g4.size
 generalize l.getD k2 0 % 60 = lo at *
 have hal := balloc w4 (.cells #[.int .i64 lo, .int .i64 0] 24)
 have x9 := Box.new w4 24 [.int .i64 lo, .int .i64 0]
 change Box (w4.alloc (.cells #[.int .i64 lo, .int .i64 0] 24)) _ _ _ at x9
 have t5 := t4.grown hal
 have g45a := Lib.hid (grown_of_below hal (some g))
 have g34 := Lib.hid g4
 replace hbw4 := Lib.hid hbw4
 have hne9 : Hid (w4.heap.size ≠ g) := by show _ ≠ _; omega
 dsimp only
 go_upto_region 16 with (fail)
 generalize w4.alloc (.cells #[.int .i64 lo, .int .i64 0] 24) = W4 at *
 generalize hg9g : w4.heap.size = g9 at x9 hne9 ⊢
 have hg9e : Hid (w4.heap.size ≤ g9) := Nat.le_of_eq hg9g
 replace hg9g := Lib.hid hg9g
 have hgg9 : Hid (g ≤ g9) := by have := hg9g.out; show _ ≤ _; omega
 have hin2 := Lib.hid (hin.out g 40 (by omega) (by omega) W4.drew _ t5.drew)
 have b1 := Int.emod_nonneg (l.getD (stepK l k2) 0) (show (40 : Int) ≠ 0 by omega)
 have b2 := Int.emod_lt_of_pos (l.getD (stepK l k2) 0) (show (0 : Int) < 40 by omega)
 generalize l.getD (stepK l k2) 0 % 40 = y at *
 have iwy : IntKind.i64.wrap (lo + y) = lo + y := by rw [IntKind.wrap_i64]; omega
 have iwy2 : IntKind.i64.wrap (lo + y - 1) = lo + y - 1 := by rw [IntKind.wrap_i64]; omega
 have x9d := Lib.hid (x9.below (bdrew W4))
 have k3 : W4.cell? ⟨g9, 0, none⟩ = some (.int .i64 lo) := x9.cell 0
 have k3d : W4.drew.cell? ⟨g9, 0, none⟩ = some (.int .i64 lo) := x9d.out.cell 0
 have hg9l : Hid (g9 < W4.drew.heap.size) := x9d.out.lt
 replace x9 := Lib.hid x9
 clear t5 t4 g4 hal
 go_cut [] (fun W => ∃ hi, SpanC g g9 (.slice Ar l.length cr) l w4 lo hi W)
 case first =>
  refine wp_region_J (fun W' : World => W'.cell? ⟨g9, 0, none⟩ = some (.int .i64 lo)) 7 (by kernel_rfl) ?_ (fun hHeld => ?_)
  · (try dsimp only); (first | exact k4 | exact k3 | exact k3d)
  refine wpAnyJ_take0 (i := 0) (v := ?_) rfl (by kernel_rfl) (by kernel_rfl) (by kernel_rfl) (fun _ _ _ h => h) (by rfl) (Or.inl ⟨by rfl, ?_⟩) (by assumption) ?_
  rotate_left 1
  · intro w hSw; (try dsimp only at hSw); go_simp <;> (try with_reducible rfl)
  try simp only [Act.put, List.getElem_toArray, List.getElem_cons_succ, List.getElem_cons_zero, List.setIfInBounds_toArray, List.set_cons_zero, List.set_cons_succ]
  refine wpAnyJ_take (i := 1) (v := ?_) rfl (by kernel_rfl) (by kernel_rfl) (by kernel_rfl) (fun _ _ _ h => h) (by rfl) rfl (by kernel_rfl) (by kernel_rfl) (Or.inl ⟨by rfl, ?_⟩) (by assumption) ?_
  rotate_left 1
  · intro w hSw; (try dsimp only at hSw); go_simp <;> (try with_reducible rfl)
  try simp only [Act.put, List.getElem_toArray, List.getElem_cons_succ, List.getElem_cons_zero, List.setIfInBounds_toArray, List.set_cons_zero, List.set_cons_succ]
  refine wpAnyJ_take0 (i := 2) (v := ?_) rfl (by kernel_rfl) (by kernel_rfl) (by kernel_rfl) (fun _ _ _ h => h) (by rfl) (Or.inl ⟨by rfl, ?_⟩) (by assumption) ?_
  rotate_left 1
  · intro w hSw; (try dsimp only at hSw); go_simp <;> (try with_reducible rfl)
  try simp only [Act.put, List.getElem_toArray, List.getElem_cons_succ, List.getElem_cons_zero, List.setIfInBounds_toArray, List.set_cons_zero, List.set_cons_succ]
  refine wpAnyJ_ready (rs := [3]) (by kernel_rfl) (by simp) ?_
  refine AllReadyJ.cons (o := _) rfl (fun Kq hKq => ?_) ?_
  · go_simp
    go_at_call 37
    with_reducible refine hin2.out.mono ?_
    rintro e w6 ⟨rfl, t6, g6⟩
    have x6 : Box w6 g9 24 [.int .i64 lo, .int .i64 0] := (g6.block g9 hg9l.out (fun e => hne9.out (Option.some.inj e))).trans x9d.out
    obtain ⟨k4, k5, f4, f5⟩ := box2_cells x6
    go_wp2_with fail
    refine hKq.out _ _ ?_ (fun hHeld => ?_)
    · intro _; (try dsimp only); (first | exact k4 | exact k3 | exact k3d)
    clear hKq Kq
    try simp only [Act.put, List.getElem_toArray, List.getElem_cons_succ, List.getElem_cons_zero, List.setIfInBounds_toArray, List.set_cons_zero, List.set_cons_succ]
    refine wpAnyJ_take0 (i := 4) (v := ?_) rfl (by kernel_rfl) (by kernel_rfl) (by kernel_rfl) (fun _ _ _ h => h) (by rfl) (Or.inl ⟨by rfl, ?_⟩) (by assumption) ?_
    rotate_left 1
    · intro w hSw; (try dsimp only at hSw); go_simp <;> (try with_reducible rfl)
    try simp only [Act.put, List.getElem_toArray, List.getElem_cons_succ, List.getElem_cons_zero, List.setIfInBounds_toArray, List.set_cons_zero, List.set_cons_succ]
    refine wpAnyJ_take0 (i := 5) (v := ?_) rfl (by kernel_rfl) (by kernel_rfl) (by kernel_rfl) (fun _ _ _ h => h) (by rfl) (Or.inl ⟨by rfl, ?_⟩) (by assumption) ?_
    rotate_left 1
    · intro w hSw; (try dsimp only at hSw); go_simp <;> (try with_reducible rfl)
    try simp only [Act.put, List.getElem_toArray, List.getElem_cons_succ, List.getElem_cons_zero, List.setIfInBounds_toArray, List.set_cons_zero, List.set_cons_succ]
    refine wpAnyJ_take0 (i := 6) (v := ?_) rfl (by kernel_rfl) (by kernel_rfl) (by kernel_rfl) (fun _ _ _ h => h) (by rfl) (Or.inl ⟨by rfl, ?_⟩) (by assumption) ?_
    rotate_left 1
    · intro w hSw; (try dsimp only at hSw); go_simp <;> (try with_reducible rfl)
    try simp only [Act.put, List.getElem_toArray, List.getElem_cons_succ, List.getElem_cons_zero, List.setIfInBounds_toArray, List.set_cons_zero, List.set_cons_succ]
    refine wpAnyJ_ready (rs := [7]) (by kernel_rfl) (by simp) ?_
    refine AllReadyJ.cons (o := _) rfl (fun Kq hKq => ?_) ?_
    · go_simp
      refine hKq.out _ _ ?_ (fun hHeld => ?_)
      · intro hl; exact absurd hl (by decide)
      clear hKq Kq
      try simp only [Act.put, List.getElem_toArray, List.getElem_cons_succ, List.getElem_cons_zero, List.setIfInBounds_toArray, List.set_cons_zero, List.set_cons_succ]
      refine wpAnyJ_done (by kernel_rfl) ?_ _
      have x7 := x6.set 1 (.int .i64 (lo + y - 1))
      simp only [List.set_cons_zero, List.set_cons_succ] at x7
      have t7 := tape_set1 (j := 1) t6 (Nat.lt_of_le_of_ne hgg9.out (fun e => hne9.out e.symm)) (.int .i64 (lo + y - 1))
      have gg7 := grown_app (ggo (ggo g45a.out (grown_of_below (bdrew W4) (some g))) g6) (setCell_grown w6 g9 1 (.int .i64 (lo + y - 1))) (fun j hj => by cases hj; exact hg9e.out)
      clear k3 k3d k4 k5 f4 f5 hHeld
      go_wp2_with fail
      go_meet
      exact ⟨lo + y - 1, _, x7, t7, gg7⟩
    exact AllReadyJ.nil
  exact AllReadyJ.nil
 case rest =>
  obtain ⟨hi, k5, x95, t55, g45⟩ := hcut
  obtain ⟨W5, rfl⟩ : ∃ W5 : World, W5 = wc := ⟨_, rfl⟩
  have gA := ggo g34.out g45
  have s5 := s2.out W5 gA
  have r5 := sees_grown_far r33.out f3.out gA (fun j hj => by cases hj; exact hz2.out)
  have hbw5 := below_tape hbw4.out g45 (Nat.le_of_eq hgg.out) hbw4.out.size
  have x9l := x95.lt
  have hv1 := cwin_any W5.heap.size _ _ R cs2 W5 r5 s5 (Nat.le_refl _) (fun c hc => (he2.out c hc).2) (by omega)
  have hv2 := fun W (hW : Below W5.heap.size W5 W) => crwin_any W.heap.size _ _ R cs2 W (seesB_of r5 (Nat.le_refl _) hW) ((s5.below hW).more hW.size) (Nat.le_refl _) (fun c hc => (he2.out c hc).2) (by omega)
  have hv3 := fun W (hW : Below W5.heap.size W5 W) => cacc_any W.heap.size _ _ R cs2 lo hi W (seesB_of r5 (Nat.le_refl _) hW) ((s5.below hW).more hW.size) (Nat.le_refl _) he2.out (by omega)
  have hv4 := fun W (hW : Below W5.heap.size W5 W) => cracc_any W.heap.size _ _ R cs2 lo hi W (seesB_of r5 (Nat.le_refl _) hW) ((s5.below hW).more hW.size) (Nat.le_refl _) he2.out (by omega)
  unfold WinP at hv1 hv2
  unfold AccP at hv3 hv4
  generalize accC R cs2 lo hi = C2 at *
  generalize accV R cs2 lo hi = P2 at *
  generalize winC R cs2 = C1 at *
  generalize (winV R cs2).1 = va at *
  generalize (winV R cs2).2 = vb at *
  replace hv1 := Lib.hid hv1
  replace hv2 := Lib.hid hv2
  replace hv3 := Lib.hid hv3
  replace hv4 := Lib.hid hv4
  replace hbw5 := Lib.hid hbw5
  have K9 : Hid (∀ W : World, Below W5.heap.size W5 W → W.cell? ⟨g9, 0, none⟩ = some (.int .i64 lo) ∧ W.cell? ⟨g9, 1, none⟩ = some (.int .i64 hi)) := fun W hW => boxT2 (x95.below hW)
  clear hin2 x9d k3 k3d hg9l x9 hbw4 t55 g45 g45a k5 gA s5 r5 x95 s2 he2 r33 f3 hi3 hin iwy iwy2 hbw3 hb2
  go_wp2_with fail
  refine hv1.out.mono ?_
  rintro e w6 ⟨rfl, hb6⟩
  have hal6 := balloc w6 (.cells #[.int .i64 va, .int .i64 vb] 24)
  have x16 := Box.new w6 24 [.int .i64 va, .int .i64 vb]
  change Box (w6.alloc (.cells #[.int .i64 va, .int .i64 vb] 24)) _ _ _ at x16
  have hb7 := bgo hb6 hal6
  clear hb6 hal6 hv1
  dsimp only
  go_upto_region 18 with (fail)
  generalize w6.alloc (.cells #[.int .i64 va, .int .i64 vb] 24) = W7 at *
  generalize w6.heap.size = g16 at x16 ⊢
  replace hv2 := Lib.hid (hv2.out W7 hb7)
  replace hb7 := Lib.hid hb7
  go_wp2_with fail
  refine hv2.out.mono ?_
  rintro e w8 ⟨rfl, hb8⟩
  have hal8 := balloc w8 (.cells #[.int .i64 va, .int .i64 vb] 24)
  have x18 := Box.new w8 24 [.int .i64 va, .int .i64 vb]
  change Box (w8.alloc (.cells #[.int .i64 va, .int .i64 vb] 24)) _ _ _ at x18
  have hb9 := bgo hb8 hal8
  have x16' := x16.below hb9
  have hb10 := bgo hb7.out hb9
  clear hb8 hal8 hv2 x16 hb9 hb7
  dsimp only
  go_upto_region 19 with (fail)
  generalize w8.alloc (.cells #[.int .i64 va, .int .i64 vb] 24) = W9 at *
  generalize w8.heap.size = g18 at x18 ⊢
  replace hv3 := Lib.hid (hv3.out W9 hb10)
  obtain ⟨k0, k1⟩ := K9.out W9 hb10
  replace hb10 := Lib.hid hb10
  replace x16' := Lib.hid x16'
  replace x18 := Lib.hid x18
  go_wp2_with fail
  refine hv3.out.mono ?_
  rintro e w11 ⟨v11, rfl, p11, hb11⟩
  obtain ⟨A11, c11, rfl, -, -⟩ := p11.mk_
  have hb12 := bgo hb10.out hb11
  have x16'' := Lib.hid (x16'.out.below hb11)
  have x18'' := Lib.hid (x18.out.below hb11)
  replace hv4 := Lib.hid (hv4.out w11 hb12)
  clear k0 k1
  obtain ⟨k0, k1⟩ := K9.out w11 hb12
  replace hb12 := Lib.hid hb12
  replace p11 := Lib.hid p11
  clear hv3 x16' x18 hb10 hb11
  dsimp only
  go_wp2_with fail
  refine hv4.out.mono ?_
  rintro e w13 ⟨v13, rfl, p13, hb13⟩
  obtain ⟨A13, c13, rfl, -, -⟩ := p13.mk_
  have hb14 := Lib.hid (bgo hb12.out hb13)
  have x16 := Lib.hid (x16''.out.below hb13)
  have x18 := Lib.hid (x18''.out.below hb13)
  have p11' := Lib.hid (seesB_of p11.out (Nat.le_refl _) hb13)
  replace p13 := Lib.hid p13
  clear hv4 x16'' x18'' hb12 p11 hb13 k0 k1 K9
  dsimp only
  go_wp2_with fail
  refine (hkn.out _).mono ?_
  rintro e w15 ⟨rfl, hb15⟩
  obtain ⟨k0, k1⟩ := boxT2 (x16.out.below hb15)
  obtain ⟨k2', k3'⟩ := boxT2 (x18.out.below hb15)
  have hsame := Lib.hid (rsame_any w15.heap.size w15.heap.size (.slice A11 P2.length c11) (.slice A13 P2.length c13) P2 P2 w15 (seesB_of p11'.out (Nat.le_refl _) hb15) (seesB_of p13.out (Nat.le_refl _) hb15))
  have hbz := Lib.hid (bgo hbw5.out (bgo hb14.out hb15))
  clear x16 x18 p11' p13 hb14 hb15
  dsimp only
  go_wp2_with fail
  refine hsame.out.mono ?_
  rintro e w16 ⟨rfl, rfl⟩
  dsimp only
  go_wp2_with fail
  go_ret
  exact ⟨by simp, hbz.out⟩
end Go.Proofs.YtjgepckncogdaaaGreat

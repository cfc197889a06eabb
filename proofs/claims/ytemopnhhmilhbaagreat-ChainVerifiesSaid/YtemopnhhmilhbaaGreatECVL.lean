/- Contracts of chains, and the walks of their laws. Conditions: those of each theorem. -/
import Derived.Deep.CutBlock
import Derived.Outline
import Derived.BigQuiet
import Derived.BigRegion
import Derived.Test.YtemopnhhmilhbaaGreatECVer
import Derived.Test.YtemopnhhmilhbaaGreatERCVer
import Derived.Test.YtemopnhhmilhbaaGreatE1
import Derived.Test.YtemopnhhmilhbaaGreatD19
namespace Go.Proofs.YtemopnhhmilhbaaGreat
open Go Go.RowKit
set_option linter.unusedVariables false
set_option linter.unusedSimpArgs false
attribute [local go_sem ↓] Go.wp_at_zero Go.wp_at_succ
set_option maxRecDepth 100000 in
set_option maxHeartbeats 8000000 in
theorem cverifies_law (v : Int) (wf0 : (Lit.int .i64 v).wf = true) (B : Nat) (u : Value) (l : List Int) (w : World) (s : SeesT w B u l) (hB : B ≤ w.heap.size) (at_ : Int) (wf1 : (Lit.int .i64 at_).wf = true) (by_ : Int) (wf2 : (Lit.int .i64 by_).wf = true) (how : Int) (wf3 : (Lit.int .i64 how).wf = true) :
 Calls Tryz.prog 3 #[.int .i64 v, u, .int .i64 at_, .int .i64 by_, .int .i64 how] w fun e w' => e = .returned (.bool true) ∧ Below w.heap.size w w' := by
 obtain ⟨Ar, cr, rfl, -, -⟩ := s.mk_
 clear wf0 wf1 wf2 wf3
 have hkn := Lib.hid (fun W => cknown_any W)
 have hsp := Lib.hid (spans_any _ l w (s.more hB))
 have hwi := Lib.hid (fun (v m : Int) (h1 : 1 ≤ m) (h2 : m ≤ 4294967296) W => kwithin_any v m h1 h2 W)
 have hfl := Lib.hid (fun u (l : Bs) W (hu : SeesB W W.heap.size u l) (hl : l.length ≤ 1048576) => kflip_any u l at_ by_ W hu hl)
 obtain ⟨q, hq, hq2⟩ := kmod_nat how 7 (by omega)
 have hw7 := fun W => hwi.out how 7 (by omega) (by omega) W
 rw [hq] at hw7
 replace hw7 := Lib.hid hw7
 replace hq2 := Lib.hid hq2
 clear hq s hB
 go_enter Tryz.func3, Tryz.ntmps3
 go_wp2_with fail
 refine hsp.out.mono ?_
 rintro e w1 ⟨v1, v2, rfl, r1, r2, hb1⟩
 have hN := spN_bounds l
 generalize spN l = N at *
 have hch := kchain_any v N (by omega) (whT l) (spT l) (whF l N) (spF l N) (fun k hk => whF_get l N k hk) (fun k hk => spF_get l N k hk) (fun k => by have := whT_bounds l k; omega) (fun k _ => ⟨small_vS (spT_bounds l k), small_inS (spT_bounds l k)⟩) _ _ w1 (Sees.of_own r2) (Sees.of_own r1)
 obtain ⟨A1, c1, rfl, -, -⟩ := (Sees.of_own r1).mk_
 obtain ⟨A2, c2, rfl, -, -⟩ := (Sees.of_own r2).mk_
 replace hch := Lib.hid hch
 clear hsp r1 r2
 dsimp only
 go_wp2_with fail
 refine hch.out.mono ?_
 rintro e w2 ⟨v3, ls, rfl, o3, hlen, hel, -, hb2⟩
 have hbw := Lib.hid (bgo hb1 hb2)
 obtain ⟨i, hi, hi2⟩ := kmod_nat at_ (ls.length : Int) (by omega)
 have hwi2 := hwi.out at_ (ls.length : Int) (by omega) (by omega) w2
 rw [hi] at hwi2
 obtain ⟨g, c3, rfl, hgb, hgl, hc3, hc4⟩ := o3.at_ (by omega)
 have hel' : ∀ t ∈ ls, t.1.length ≤ 2048 ∧ t.2.1.length ≤ 2048 ∧ t.2.2.length ≤ 2048 := fun t ht => by have := hel t ht; omega
 have hiN : i < ls.length := by omega
 replace hwi2 := Lib.hid hwi2
 have hN3 : ls.length ≤ 3 := by omega
 replace hlen := Lib.hid hlen
 replace hi := Lib.hid hi
 replace hel := Lib.hid hel
 replace hel' := Lib.hid hel'
 replace o3 := Lib.hid o3
 dsimp only
 go_wp2_with fail
 refine hwi2.out.mono ?_
 rintro e w3 ⟨rfl, hw⟩
 obtain rfl := hw.symm
 dsimp only
 go_wp2_with fail
 refine (hw7.out _).mono ?_
 rintro e w3 ⟨rfl, hw⟩
 obtain rfl := hw.symm
 clear hw7 hwi2 hch hi
 dsimp only
 go_upto_block 0 with (fail)
 go_cut [13] (fun v13 W => LkS w1 v13 W)
 case first =>
  have h7 := hq2.out
  obtain ⟨A0, d0, A1', d1, A2', d2, z0, z1, z2, e0, e1, e2⟩ := own_link o3.out i hiN
  have j1 : (i : Int) < (ls.length : Int) := by omega
  have j0 : (0 : Int) ≤ (i : Int) := by omega
  obtain rfl | rfl | rfl | rfl | rfl | hq5 : q = 0 ∨ q = 1 ∨ q = 2 ∨ q = 3 ∨ q = 4 ∨ 5 ≤ q := by omega
  · have hf := Lib.hid (hfl.out _ _ w2 e2.1.1 (by have := hel.out _ (linkT_mem ls i hiN); omega))
    have hkl := hel.out _ (linkT_mem ls i hiN)
    have hset := link_put2 ls i
    have hel2 := fun x => set_len (P := fun t => t.1.length ≤ 2048 ∧ t.2.1.length ≤ 2048 ∧ t.2.2.length ≤ 2048) hel'.out i x
    generalize linkT ls i = t at *
    obtain ⟨t1, t2, t3⟩ := t
    dsimp only at *
    replace e0 := Lib.hid e0
    replace e1 := Lib.hid e1
    replace e2 := Lib.hid e2
    replace hkl := Lib.hid hkl
    replace hset := Lib.hid hset
    replace hel2 := Lib.hid hel2
    go_wp2_with fail
    refine hf.out.mono ?_
    rintro e w6 ⟨l', hl', v6, rfl, o6, hb6⟩
    obtain ⟨A6, c6, rfl, -, -⟩ := o6.sees.mk_
    have k0 := (hb6.cell (p := ⟨g, i * 3 + 2, none⟩) hgl).trans z2
    have fz := (o3.out.below hb6).frozen (i * 3 + 2)
    have hdone : LkS w1 (.slice (some ⟨g, 0, none⟩) ls.length c3) (w6.setCell ⟨g, i * 3 + 2, none⟩ (.slice A6 l'.length c6)) := by
     have hp := (o3.out.below hb6).put (j := i * 3 + 2) (s := .byt l') (by omega) (EltS.of_from o6.sees o6.from (fun j hj => by cases hj; exact hgl)) (o6.from.mono hb2.size)
     rw [hset.out l' hiN] at hp
     have hL := hel2.out (t1, t2, l') (by have := hkl.out; dsimp only; omega)
     refine ⟨_, ?_, ?_, hL, ((bgo hb2 hb6).setCell (p := ⟨g, i * 3 + 2, none⟩) hgb _)⟩
     · rw [List.length_set]; exact hp.own.sees
     · rw [List.length_set]; omega
    replace hkl := Lib.hid hkl
    replace hl' := Lib.hid hl'
    clear z0 z1 z2
    dsimp only
    go_wp2_with fail
    go_meet
    exact hdone
  · have hf := Lib.hid (hfl.out _ _ w2 e1.1.1 (by have := hel.out _ (linkT_mem ls i hiN); omega))
    have hkl := hel.out _ (linkT_mem ls i hiN)
    have hset := link_put1 ls i
    have hel2 := fun x => set_len (P := fun t => t.1.length ≤ 2048 ∧ t.2.1.length ≤ 2048 ∧ t.2.2.length ≤ 2048) hel'.out i x
    generalize linkT ls i = t at *
    obtain ⟨t1, t2, t3⟩ := t
    dsimp only at *
    replace e0 := Lib.hid e0
    replace e1 := Lib.hid e1
    replace e2 := Lib.hid e2
    replace hkl := Lib.hid hkl
    replace hset := Lib.hid hset
    replace hel2 := Lib.hid hel2
    go_wp2_with fail
    refine hf.out.mono ?_
    rintro e w6 ⟨l', hl', v6, rfl, o6, hb6⟩
    obtain ⟨A6, c6, rfl, -, -⟩ := o6.sees.mk_
    have k0 := (hb6.cell (p := ⟨g, i * 3 + 1, none⟩) hgl).trans z1
    have fz := (o3.out.below hb6).frozen (i * 3 + 1)
    have hdone : LkS w1 (.slice (some ⟨g, 0, none⟩) ls.length c3) (w6.setCell ⟨g, i * 3 + 1, none⟩ (.slice A6 l'.length c6)) := by
     have hp := (o3.out.below hb6).put (j := i * 3 + 1) (s := .byt l') (by omega) (EltS.of_from o6.sees o6.from (fun j hj => by cases hj; exact hgl)) (o6.from.mono hb2.size)
     rw [hset.out l' hiN] at hp
     have hL := hel2.out (t1, l', t3) (by have := hkl.out; dsimp only; omega)
     refine ⟨_, ?_, ?_, hL, ((bgo hb2 hb6).setCell (p := ⟨g, i * 3 + 1, none⟩) hgb _)⟩
     · rw [List.length_set]; exact hp.own.sees
     · rw [List.length_set]; omega
    replace hkl := Lib.hid hkl
    replace hl' := Lib.hid hl'
    clear z0 z1 z2
    dsimp only
    go_wp2_with fail
    go_meet
    exact hdone
  · have hf := Lib.hid (hfl.out _ _ w2 e0.1.1 (by have := hel.out _ (linkT_mem ls i hiN); omega))
    have hkl := hel.out _ (linkT_mem ls i hiN)
    have hset := link_put0 ls i
    have hel2 := fun x => set_len (P := fun t => t.1.length ≤ 2048 ∧ t.2.1.length ≤ 2048 ∧ t.2.2.length ≤ 2048) hel'.out i x
    generalize linkT ls i = t at *
    obtain ⟨t1, t2, t3⟩ := t
    dsimp only at *
    replace e0 := Lib.hid e0
    replace e1 := Lib.hid e1
    replace e2 := Lib.hid e2
    replace hkl := Lib.hid hkl
    replace hset := Lib.hid hset
    replace hel2 := Lib.hid hel2
    go_wp2_with fail
    refine hf.out.mono ?_
    rintro e w6 ⟨l', hl', v6, rfl, o6, hb6⟩
    obtain ⟨A6, c6, rfl, -, -⟩ := o6.sees.mk_
    have k0 := (hb6.cell (p := ⟨g, i * 3, none⟩) hgl).trans z0
    have fz := (o3.out.below hb6).frozen (i * 3)
    have hdone : LkS w1 (.slice (some ⟨g, 0, none⟩) ls.length c3) (w6.setCell ⟨g, i * 3, none⟩ (.slice A6 l'.length c6)) := by
     have hp := (o3.out.below hb6).put (j := i * 3) (s := .byt l') (by omega) (EltS.of_from o6.sees o6.from (fun j hj => by cases hj; exact hgl)) (o6.from.mono hb2.size)
     rw [hset.out l' hiN] at hp
     have hL := hel2.out (l', t2, t3) (by have := hkl.out; dsimp only; omega)
     refine ⟨_, ?_, ?_, hL, ((bgo hb2 hb6).setCell (p := ⟨g, i * 3, none⟩) hgb _)⟩
     · rw [List.length_set]; exact hp.own.sees
     · rw [List.length_set]; omega
    replace hkl := Lib.hid hkl
    replace hl' := Lib.hid hl'
    clear z0 z1 z2
    dsimp only
    go_wp2_with fail
    go_meet
    exact hdone
  · have h0 : 0 < ls.length := by omega
    obtain ⟨B0, f0, B1, f1, B2, f2, y0, y1, y2, e3, e4, e5⟩ := own_link o3.out 0 h0
    simp only [Nat.zero_mul, Nat.zero_add] at y0 y1 y2
    have j3 : (0 : Int) < (ls.length : Int) := by omega
    have hset := Lib.hid (swap_done (B := 0) hb2 hgb o3.out i hiN h0 z0 z1 z2 y0 y1 y2 e0 e1 e2 e3 e4 e5 hel'.out (by omega))
    have fz := fun j => o3.out.frozen j
    generalize (linkT ls i).1.length = n0 at *
    generalize (linkT ls i).2.1.length = n1 at *
    generalize (linkT ls i).2.2.length = n2 at *
    generalize (linkT ls 0).1.length = m0 at *
    generalize (linkT ls 0).2.1.length = m1 at *
    generalize (linkT ls 0).2.2.length = m2 at *
    clear e0 e1 e2 e3 e4 e5
    obtain rfl | rfl | rfl : i = 0 ∨ i = 1 ∨ i = 2 := by omega
    · simp only [Nat.zero_mul, Nat.zero_add] at z0 z1 z2 hset
      have q0 := Option.some.inj (y0.symm.trans z0)
      have q1 := Option.some.inj (y1.symm.trans z1)
      have q2 := Option.some.inj (y2.symm.trans z2)
      rw [q0, q1, q2] at hset
      clear y0 y1 y2 q0 q1 q2
      have hdone := Lib.hid (hset.out w2 (Below.refl _ _) (fun _ => rfl)).drew
      clear hset
      go_wp2_with fail
      go_upto_region 12 with (fail)
      go_big_region
      all_goals
       go_wp2_with fail
       go_meet
       exact hdone.out
    all_goals
     simp only [Nat.reduceMul, Nat.reduceAdd] at z0 z1 z2 hset
     have hdone := Lib.hid (hset.out w2 (Below.refl _ _) (fun _ => rfl)).drew
     clear hset
     go_wp2_with fail
     go_upto_region 12 with (fail)
     go_big_region
     all_goals
      go_wp2_with fail
      go_meet
      exact hdone.out
  · have hcut := links_cut o3.out.own.sees rfl (a := 1) (b := ls.length) (by omega) (Nat.le_refl _)
    have hrc := run_cut_from (P := Tryz.prog) 26 Tryz.underlying26 3 link_size (some ⟨g, 0, none⟩) ls.length c3 .i64 1 (by omega) (by omega)
    rw [show (1 : Int).toNat = 1 from rfl] at hrc
    have hdone : Hid (LkS w1 (.slice (cutA (some ⟨g, 0, none⟩) c3 1 3) (ls.length - 1) (c3 - 1)) w2) := by
     have hl1 : ((ls.drop 1).take (ls.length - 1)).length = ls.length - 1 := by rw [List.length_take, List.length_drop]; omega
     refine ⟨(ls.drop 1).take (ls.length - 1), by rw [hl1]; exact hcut, by omega, fun t ht => hel'.out t (List.mem_of_mem_drop (List.mem_of_mem_take ht)), hb2⟩
    generalize cutA (some ⟨g, 0, none⟩) c3 1 3 = A9 at *
    clear hcut e0 e1 e2 z0 z1 z2
    go_wp2_with fail
    go_meet
    exact hdone.out
  · have hdone : Hid (LkS w1 (.slice (some ⟨g, 0, none⟩) ls.length c3) w2) := ⟨ls, o3.out.own.sees, by omega, hel'.out, hb2⟩
    have n0 : ¬ (q : Int) = 0 := by omega
    have n1 : ¬ (q : Int) = 1 := by omega
    have n2 : ¬ (q : Int) = 2 := by omega
    have n3 : ¬ (q : Int) = 3 := by omega
    have n4 : ¬ (q : Int) = 4 := by omega
    clear z0 z1 z2 e0 e1 e2
    go_wp2_with fail
    go_meet
    exact hdone.out
 case rest =>
 obtain ⟨ls2, s2, hl2, he2, hb3⟩ := hcut
 obtain ⟨W2, rfl⟩ : ∃ W2 : World, W2 = wc := ⟨_, rfl⟩
 obtain ⟨A9, c9, rfl, -, -⟩ := s2.mk_
 have hv1 := cverify_any W2.heap.size _ ls2 W2 s2 (Nat.le_refl _) (by omega) (fun t ht => by have := he2 t ht; omega)
 have hv2 := fun W (hW : Below W2.heap.size W2 W) => rcverify_any W2.heap.size _ ls2 W (s2.below hW) hW.size (by omega) (fun t ht => by have := he2 t ht; omega)
 have hsg := spanC2_get (cverV ls2)
 have hsl : (cverV ls2).length ≤ 8 := by unfold cverV; split <;> simp [cverK]; omega
 unfold CVerP at hv1 hv2
 generalize cverC ls2 = C at *
 generalize cverV ls2 = V at *
 replace hv1 := Lib.hid hv1
 replace hv2 := Lib.hid hv2
 replace hsg := Lib.hid hsg
 replace hb3 := Lib.hid (bgo hb1 hb3)
 replace hbw := hb3
 replace hl2 := Lib.hid hl2
 clear hi2 hc3 hc4 hgl hgb hN hiN hN3 hlen hel hel' o3 hb2 hb1 s2 he2 hfl hwi hq2
 go_wp2_with fail
 refine hv1.out.mono ?_
 rintro e w4 ⟨v4, rfl, p4, hb4⟩
 have h2 := Lib.hid (hv2.out w4 hb4)
 obtain ⟨A4, c4, rfl, -, -⟩ := p4.mk_
 have p4' := spanC2_sees p4
 clear hv1 hv2 p4
 dsimp only
 go_wp2_with fail
 refine h2.out.mono ?_
 rintro e w5 ⟨v5, rfl, p5, hb5⟩
 obtain ⟨A5, c5, rfl, -, -⟩ := p5.mk_
 have p5' := spanC2_sees p5
 have hb6 := Lib.hid (bgo (bgo hb3.out hb4) hb5)
 replace p4' := p4'.below hb5
 have hss := fun W (hW : Below w5.heap.size w5 W) => same_true W.heap.size _ _ V.length (fun k => (V.getD k (0, 0)).1) (fun k => (V.getD k (0, 0)).2) (spanC2 V) W ((p4'.more hb5.size).below hW |>.more hW.size) ((p5'.below hW).more hW.size) (fun k hk => hsg.out k hk)
 replace hss := Lib.hid hss
 clear p4' p5' p5 h2 hsg hb4 hb5 hb3
 dsimp only
 go_wp2_with fail
 refine (hkn.out _).mono ?_
 rintro e w7 ⟨rfl, hb7⟩
 have h8 := Lib.hid (hss.out w7 hb7)
 dsimp only
 go_wp2_with fail
 refine h8.out.mono ?_
 rintro e w8 ⟨rfl, m, rfl⟩
 have hb9 := Lib.hid (below_drewN (bgo hb6.out hb7) m)
 dsimp only
 go_wp2_with fail
 go_ret
 exact ⟨rfl, hb9.out⟩
end Go.Proofs.YtemopnhhmilhbaaGreat

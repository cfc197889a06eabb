/- Contracts that a law leans on, and its walk. Conditions: those of each theorem. -/
import Derived.Deep.CutBlock
import Derived.Test.YtemopnhhmilhbaaGreatGFKnow
import Derived.Test.YtemopnhhmilhbaaGreatGRFChk
import Derived.Test.YtemopnhhmilhbaaGreatGSpansB
namespace Go.Proofs.YtemopnhhmilhbaaGreat
open Go Go.RowKit
set_option linter.unusedVariables false
set_option linter.unusedSimpArgs false
attribute [local go_sem ↓] Go.wp_at_zero Go.wp_at_succ
theorem int_sz (w : World) : (sizeOf 3).run Tryz.prog w = .ok 1 w := by kernel_rfl
set_option maxRecDepth 100000 in
set_option maxHeartbeats 8000000 in
theorem bchecks_law (v : Int) (wf0 : (Lit.int .i64 v).wf = true) (B : Nat) (u : Value) (l : List Int) (w : World) (s : SeesT w B u l) (hB : B ≤ w.heap.size) (fi : Int) (wf1 : (Lit.int .i64 fi).wf = true) (se : Int) (wf2 : (Lit.int .i64 se).wf = true) (at_ : Int) (wf3 : (Lit.int .i64 at_).wf = true) (by_ : Int) (wf4 : (Lit.int .i64 by_).wf = true) :
 Calls Tryz.prog 7 #[.int .i64 v, u, .int .i64 fi, .int .i64 se, .int .i64 at_, .int .i64 by_] w fun e w' => e = .returned (.bool true) ∧ Below w.heap.size w w' := by
 obtain ⟨Ar, cr, rfl, -, -⟩ := s.mk_
 clear wf0 wf1 wf2 wf3 wf4
 have hkn := Lib.hid (fun W => fknown_any W)
 have hsp := Lib.hid (sq_any _ l w (s.more hB))
 have hwi := Lib.hid (fun (v m : Int) (h1 : 1 ≤ m) (h2 : m ≤ 4294967296) W => kwithin_any v m h1 h2 W)
 have hfl := Lib.hid (fun u (l : Bs) W (hu : SeesB W W.heap.size u l) (hl : l.length ≤ 1048576) => kflip_any u l at_ by_ W hu hl)
 clear s hB
 go_enter Tryz.func7, Tryz.ntmps7
 go_wp2_with fail
 refine hsp.out.mono ?_
 rintro e w1 ⟨v1, v2, rfl, r1, r2, hb1⟩
 have hN := sqN_bounds l
 generalize sqN l = N at *
 obtain ⟨M, hM⟩ : ∃ M, min 3 N = M := ⟨_, rfl⟩
 have hMN : M ≤ N := by omega
 have hM3 : M ≤ 3 := by omega
 have hM1 : 1 ≤ M := by omega
 have hmm : min (3 : Int) (N : Int) = (M : Int) := by omega
 obtain ⟨A1, c1, rfl, hc1, -⟩ := (Sees.of_own r1).mk_
 obtain ⟨A2, c2, rfl, hc2, -⟩ := (Sees.of_own r2).mk_
 have s1 := (Sees.of_own r1).cut (l := 0) (h' := M) (by omega) hMN
 have s2 := (Sees.of_own r2).cut (l := 0) (h' := M) (by omega) hMN
 have hr1 := run_cut_to (P := Tryz.prog) 23 Tryz.underlying23 2 span_szB A1 N c1 .i64 (M : Int) (by omega) (by omega)
 have hr2 := run_cut_to (P := Tryz.prog) 22 Tryz.underlying22 1 int_sz A2 N c2 .i64 (M : Int) (by omega) (by omega)
 rw [Int.toNat_natCast] at hr1 hr2
 simp only [Nat.sub_zero, Nat.zero_mul, List.drop_zero] at s1 s2 hr1 hr2
 have hch := fun W (hW : Below w1.heap.size w1 W) => kchain_any v M (by omega) (whT l) (sqT l) ((whF l N).take (M * 1)) ((sqF l N).take (M * 2)) (fun k hk => by rw [List.getElem?_take, if_pos (by omega)]; exact whF_get l N k (by omega)) (fun k hk => by rw [List.getElem?_take, if_pos (by omega), List.getElem?_take, if_pos (by omega)]; exact sqF_get l N k (by omega)) (fun k => by have := whT_bounds l k; omega) (fun k _ => ⟨small_vS (sq_small l k), small_inS (sq_small l k)⟩) _ _ W ((s2.below hW).more hW.size) ((s1.below hW).more hW.size)
 have hM : Hid (min 3 N = M) := hM
 generalize cutA A1 c1 0 2 = A3 at *
 generalize cutA A2 c2 0 1 = A4 at *
 replace hch := Lib.hid (hch _ (bdrew w1))
 clear hsp r1 r2 s1 s2
 dsimp only
 go_upto_region 2 with (fail)
 go_cut [15] (fun v15 W => ∃ ls : List LinkG, OwnRF W w1.heap.size 32 v15 3 ls.length (linkS ls) ∧ ls.length = M ∧ (∀ t ∈ ls, t.1.length = 32 ∧ t.2.1.length = 32 ∧ t.2.2.length ≤ 2048) ∧ Below w1.heap.size w1 W)
 case first =>
  go_region_held3 (fun W' : World => True)
   (trivial)
   (first
    | (go_at_call 16; (with_reducible refine hch.out.mono ?_); rintro e w2 ⟨v3, ls, rfl, o3, hlen, hel, -, hb2⟩))
  all_goals
   go_wp2_with fail
   go_meet
   exact ⟨ls, o3, hlen, hel, bgo (bdrew w1) hb2⟩
 case rest =>
 obtain ⟨ls, o3', rfl, hel, hb2⟩ := hcut
 obtain ⟨w2, rfl⟩ : ∃ w2 : World, w2 = wc := ⟨_, rfl⟩
 clear hr1 hr2 hch
 obtain ⟨g, c3, rfl, hgb, hgl, hc3, hc4⟩ := o3'.at_ (by omega)
 have hel' : ∀ t ∈ ls, t.1.length ≤ 2048 ∧ t.2.1.length ≤ 2048 ∧ t.2.2.length ≤ 2048 := fun t ht => by have := hel t ht; omega
 obtain ⟨q1, hq1, hq1b⟩ := kmod_nat fi 5 (by omega)
 obtain ⟨q2, hq2, hq2b⟩ := kmod_nat se 5 (by omega)
 obtain ⟨q3, hq3, hq3b⟩ := kmod_nat at_ 6 (by omega)
 have hw1 := fun W => hwi.out fi 5 (by omega) (by omega) W
 have hw2 := fun W => hwi.out se 5 (by omega) (by omega) W
 have hw3 := fun W => hwi.out at_ 6 (by omega) (by omega) W
 rw [hq1] at hw1
 rw [hq2] at hw2
 rw [hq3] at hw3
 replace hw1 := Lib.hid hw1
 replace hw2 := Lib.hid hw2
 replace hw3 := Lib.hid hw3
 have h13 : ls.length ≤ 3 := by omega
 have h10 : 0 < ls.length := by omega
 have j1 : (0 : Int) < (ls.length : Int) := by omega
 replace hel := Lib.hid hel
 replace hel' := Lib.hid hel'
 replace o3 := Lib.hid o3'
 clear hq1 hq2 hq3 hwi o3' hmm hMN hM3 hM1
 go_wp2_with fail
 refine (hw1.out _).mono ?_
 rintro e w3 ⟨rfl, hw⟩
 obtain rfl := hw.symm
 dsimp only
 go_wp2_with fail
 refine (hw2.out _).mono ?_
 rintro e w3 ⟨rfl, hw⟩
 obtain rfl := hw.symm
 dsimp only
 go_upto_region 4 with (fail)
 have hal := balloc w2 (.cells #[.slice (some ⟨g, 0, none⟩) ls.length c3, .int .i64 ((q1 : Int) - 1), .int .i64 ((q2 : Int) - 1)] 47)
 have x4 := Box.new w2 47 [.slice (some ⟨g, 0, none⟩) ls.length c3, .int .i64 ((q1 : Int) - 1), .int .i64 ((q2 : Int) - 1)]
 change Box (w2.alloc (.cells #[.slice (some ⟨g, 0, none⟩) ls.length c3, .int .i64 ((q1 : Int) - 1), .int .i64 ((q2 : Int) - 1)] 47)) _ _ _ at x4
 have o4 := o3.out.below hal
 have hb4 := bgo hb2 hal
 have hg14 : g < w2.heap.size := hgl
 clear hal o3 hb2 hw1 hw2
 generalize w2.alloc (.cells #[.slice (some ⟨g, 0, none⟩) ls.length c3, .int .i64 ((q1 : Int) - 1), .int .i64 ((q2 : Int) - 1)] 47) = W4 at *
 generalize w2.heap.size = g4 at *
 have hgl4 : g < W4.heap.size := Nat.lt_trans hg14 x4.lt
 go_wp2_with fail
 refine (hw3.out _).mono ?_
 rintro e w3 ⟨rfl, hw⟩
 obtain rfl := hw.symm
 dsimp only
 go_upto_if 48 with (fail)
 go_cut [56] (fun v56 W => LkS w1 (.slice (some ⟨g, 0, none⟩) ls.length c3) W ∧ Box W g4 47 [.slice (some ⟨g, 0, none⟩) ls.length c3, .int .i64 ((q1 : Int) - 1), .int .i64 ((q2 : Int) - 1)])
 case first =>
  obtain ⟨A0, d0, A1', d1, A2', d2, z0, z1, z2, e0, e1, e2⟩ := own_link o4 0 h10
  by_cases h5 : q3 = 5
  · subst h5
    have hf := Lib.hid (hfl.out _ _ W4 e1.1.1 (by have := hel.out _ (linkT_mem ls 0 h10); omega))
    have hkl := hel.out _ (linkT_mem ls 0 h10)
    have hset := link_put1 ls 0
    have hel2 := fun x => set_len (P := fun t => t.1.length ≤ 2048 ∧ t.2.1.length ≤ 2048 ∧ t.2.2.length ≤ 2048) hel'.out 0 x
    generalize linkT ls 0 = t at *
    obtain ⟨t1, t2, t3⟩ := t
    dsimp only at *
    simp only [Nat.zero_mul, Nat.zero_add] at z0 z1 z2
    replace e0 := Lib.hid e0
    replace e1 := Lib.hid e1
    replace e2 := Lib.hid e2
    replace hkl := Lib.hid hkl
    replace hset := Lib.hid hset
    replace hel2 := Lib.hid hel2
    replace o4 := Lib.hid o4
    replace hb4 := Lib.hid hb4
    replace x4 := Lib.hid x4
    have h35 : ((5 : Nat) : Int) = 5 := rfl
    go_wp2_with fail
    refine hf.out.mono ?_
    rintro e w6 ⟨l', hl', v6, rfl, o6, hb6⟩
    obtain ⟨A6, c6, rfl, -, -⟩ := o6.sees.mk_
    have k0 := (hb6.cell (p := ⟨g, 1, none⟩) hgl4).trans z1
    have fz := (o4.out.below hb6).frozen 1
    have hne : g4 ≠ g := by omega
    have x6 : Box (w6.setCell ⟨g, 1, none⟩ (.slice A6 l'.length c6)) g4 47 [.slice (some ⟨g, 0, none⟩) ls.length c3, .int .i64 ((q1 : Int) - 1), .int .i64 ((q2 : Int) - 1)] :=
     ((setCell_grown w6 g 1 (.slice A6 l'.length c6)).block g4 (Nat.lt_of_lt_of_le x4.out.lt hb6.size) (fun e => hne (Option.some.inj e))).trans (x4.out.below hb6)
    have hdone : LkS w1 (.slice (some ⟨g, 0, none⟩) ls.length c3) (w6.setCell ⟨g, 1, none⟩ (.slice A6 l'.length c6)) := by
     have hp := (o4.out.below hb6).put (j := 0 * 3 + 1) (s := .byt l') (by omega) (EltS.of_from o6.sees o6.from (fun j hj => by cases hj; exact hgl4)) (o6.from.mono hb4.out.size)
     rw [hset.out l' h10] at hp
     have hL := hel2.out (t1, l', t3) (by have := hkl.out; dsimp only; omega)
     refine ⟨_, ?_, ?_, hL, ((bgo hb4.out hb6).setCell (p := ⟨g, 1, none⟩) hgb _)⟩
     · rw [List.length_set]; exact hp.own.sees
     · rw [List.length_set]; omega
    replace hkl := Lib.hid hkl
    replace hl' := Lib.hid hl'
    clear z0 z1 z2
    dsimp only
    go_wp2_with fail
    go_meet
    exact ⟨hdone, x6⟩
  · have hdone : Hid (LkS w1 (.slice (some ⟨g, 0, none⟩) ls.length c3) W4) := ⟨ls, o4.own.sees, by omega, hel'.out, hb4⟩
    have n5 : ¬ (q3 : Int) = 5 := by omega
    clear z0 z1 z2 e0 e1 e2
    go_wp2_with fail
    go_meet
    exact ⟨hdone.out, x4⟩
 case rest =>
 obtain ⟨⟨ls2, s2, hl2, he2, hb3⟩, x5⟩ := hcut
 obtain ⟨W5, rfl⟩ : ∃ W5 : World, W5 = wc := ⟨_, rfl⟩
 obtain ⟨A9, c9, hv9, -, -⟩ := s2.mk_
 rw [hv9] at s2 x5
 have he3 : ∀ t ∈ ls2, t.1.length ≤ 1048576 ∧ t.2.1.length ≤ 1048576 ∧ t.2.2.length ≤ 1048576 := fun t ht => by have := he2 t ht; omega
 have hf1 := Lib.hid (fcheck_any W5.heap.size _ ls2 ((q1 : Int) - 1) ((q2 : Int) - 1) W5 s2 (Nat.le_refl _) (by omega) he3)
 have hf2 := Lib.hid (fun W (hW : Below W5.heap.size W5 W) => rfcheck_any W5.heap.size _ ls2 ((q1 : Int) - 1) ((q2 : Int) - 1) W (s2.below hW) hW.size (by omega) he3)
 unfold FChkP at hf1 hf2
 generalize fchkC ls2 ((q1 : Int) - 1) ((q2 : Int) - 1) = C at *
 generalize fchkB ls2 ((q1 : Int) - 1) ((q2 : Int) - 1) = K at *
 have hsm := Lib.hid (fun B B' u v a W h1 h2 => rsame_eq B B' u v a W h1 h2)
 replace hb3 := Lib.hid (bgo hb1 hb3)
 clear x4 s2 he2 he3 hl2 hv9 hfl hel hel' o4 hb1
 obtain ⟨k0, k1, k2, -, -, -⟩ := box3_cells x5
 go_wp2_with fail
 refine hf1.out.mono ?_
 rintro e w6 ⟨v6, rfl, s6, hb6⟩
 have h6 := Lib.hid (hf2.out w6 hb6)
 obtain ⟨A6, c6, rfl, -, -⟩ := s6.mk_
 have x6 := x5.below hb6
 clear k0 k1 k2 x5 hf1 hf2
 obtain ⟨k0, k1, k2, -, -, -⟩ := box3_cells x6
 dsimp only
 go_wp2_with fail
 refine h6.out.mono ?_
 rintro e w7 ⟨v7, rfl, s7, hb7⟩
 obtain ⟨A7, c7, rfl, -, -⟩ := s7.mk_
 replace s6 := Lib.hid ((s6.below hb7).more hb7.size)
 replace s7 := Lib.hid s7
 replace hb3 := Lib.hid (bgo (bgo hb3.out hb6) hb7)
 clear k0 k1 k2 x6 h6 hb6 hb7
 dsimp only
 go_wp2_with fail
 refine (hkn.out _).mono ?_
 rintro e w8 ⟨rfl, hb8⟩
 have h9 := Lib.hid (hsm.out _ _ _ _ K w8 (s6.out.below hb8) (s7.out.below hb8))
 replace hb3 := Lib.hid (bgo hb3.out hb8)
 clear hb8 s6 s7
 dsimp only
 go_wp2_with fail
 refine h9.out.mono ?_
 rintro e w9 ⟨rfl, hw⟩
 obtain rfl := hw.symm
 dsimp only
 go_wp2_with fail
 go_ret
 exact ⟨rfl, hb3.out⟩
end Go.Proofs.YtemopnhhmilhbaaGreat

/- Contracts that a law leans on, and its walk. Conditions: those of each theorem. -/
import Derived.Deep.CutBlock
import Derived.Test.YtemopnhhmilhbaaGreatGFKnow
import Derived.Test.YtemopnhhmilhbaaGreatGRBFind
import Derived.Test.YtemopnhhmilhbaaGreatGSpansB
namespace Go.Proofs.YtemopnhhmilhbaaGreat
open Go Go.RowKit
set_option linter.unusedVariables false
set_option linter.unusedSimpArgs false
attribute [local go_sem ↓] Go.wp_at_zero Go.wp_at_succ
set_option maxRecDepth 100000 in
set_option maxHeartbeats 8000000 in
theorem bfinds_law (v : Int) (wf0 : (Lit.int .i64 v).wf = true) (B : Nat) (u : Value) (l : List Int) (w : World) (s : SeesT w B u l) (hB : B ≤ w.heap.size) (at_ : Int) (wf1 : (Lit.int .i64 at_).wf = true) (by_ : Int) (wf2 : (Lit.int .i64 by_).wf = true) (ch : Bool) :
 Calls Tryz.prog 6 #[.int .i64 v, u, .int .i64 at_, .int .i64 by_, .bool ch] w fun e w' => e = .returned (.bool true) ∧ Below w.heap.size w w' := by
 obtain ⟨Ar, cr, rfl, -, -⟩ := s.mk_
 clear wf0 wf1 wf2
 have hkn := Lib.hid (fun W => fknown_any W)
 have hsp := Lib.hid (sq_any _ l w (s.more hB))
 have hwi := Lib.hid (fun (v m : Int) (h1 : 1 ≤ m) (h2 : m ≤ 4294967296) W => kwithin_any v m h1 h2 W)
 have hfl := Lib.hid (fun u (l : Bs) W (hu : SeesB W W.heap.size u l) (hl : l.length ≤ 1048576) => kflip_any u l at_ by_ W hu hl)
 clear s hB
 go_enter Tryz.func6, Tryz.ntmps6
 go_wp2_with fail
 refine hsp.out.mono ?_
 rintro e w1 ⟨v1, v2, rfl, r1, r2, hb1⟩
 have hN := sqN_bounds l
 generalize sqN l = N at *
 have hch := kchain_any v N (by omega) (whT l) (sqT l) (whF l N) (sqF l N) (fun k hk => whF_get l N k hk) (fun k hk => sqF_get l N k hk) (fun k => by have := whT_bounds l k; omega) (fun k _ => ⟨small_vS (sq_small l k), small_inS (sq_small l k)⟩) _ _ w1 (Sees.of_own r2) (Sees.of_own r1)
 obtain ⟨A1, c1, rfl, -, -⟩ := (Sees.of_own r1).mk_
 obtain ⟨A2, c2, rfl, -, -⟩ := (Sees.of_own r2).mk_
 replace hch := Lib.hid hch
 clear hsp r1 r2
 dsimp only
 go_wp2_with fail
 refine hch.out.mono ?_
 rintro e w2 ⟨v3, ls, rfl, o3, hlen, hel, -, hb2⟩
 have hbw := Lib.hid (bgo hb1 hb2)
 obtain ⟨i, hi, hi2⟩ := kmod_nat at_ (ls.length : Int) (by omega)
 have hwi2 := hwi.out at_ (ls.length : Int) (by omega) (by omega) w2
 rw [hi] at hwi2
 obtain ⟨g, c3, rfl, hgb, hgl, hc3, hc4⟩ := o3.at_ (by omega)
 have hel' : ∀ t ∈ ls, t.1.length ≤ 2048 ∧ t.2.1.length ≤ 2048 ∧ t.2.2.length ≤ 2048 := fun t ht => by have := hel t ht; omega
 have hiN : i < ls.length := by omega
 replace hwi2 := Lib.hid hwi2
 have hN3 : ls.length ≤ 4 := by omega
 replace hlen := Lib.hid hlen
 replace hi := Lib.hid hi
 replace hel := Lib.hid hel
 replace hel' := Lib.hid hel'
 replace o3 := Lib.hid o3
 dsimp only
 go_upto_if 30 with (fail)
 go_cut [14] (fun v14 W => LkS w1 (.slice (some ⟨g, 0, none⟩) ls.length c3) W)
 case first =>
  obtain ⟨A0, d0, A1', d1, A2', d2, z0, z1, z2, e0, e1, e2⟩ := own_link o3.out i hiN
  have j1 : (i : Int) < (ls.length : Int) := by omega
  have j0 : (0 : Int) ≤ (i : Int) := by omega
  cases ch
  · have hdone : Hid (LkS w1 (.slice (some ⟨g, 0, none⟩) ls.length c3) w2) := ⟨ls, o3.out.own.sees, by omega, hel'.out, hb2⟩
    clear z0 z1 z2 e0 e1 e2
    go_wp2_with fail
    go_meet
    exact hdone.out
  · have hf := Lib.hid (hfl.out _ _ w2 e2.1.1 (by have := hel.out _ (linkT_mem ls i hiN); omega))
    have hkl := hel.out _ (linkT_mem ls i hiN)
    have hset := link_put2 ls i
    have hel2 := fun x => set_len (P := fun t => t.1.length ≤ 2048 ∧ t.2.1.length ≤ 2048 ∧ t.2.2.length ≤ 2048) hel'.out i x
    generalize linkT ls i = t at *
    obtain ⟨t1, t2, t3⟩ := t
    dsimp only at *
    replace e0 := Lib.hid e0
    replace e1 := Lib.hid e1
    replace e2 := Lib.hid e2
    replace hkl := Lib.hid hkl
    replace hset := Lib.hid hset
    replace hel2 := Lib.hid hel2
    go_wp2_with fail
    refine hwi2.out.mono ?_
    rintro e w3 ⟨rfl, hw⟩
    obtain rfl := hw.symm
    dsimp only
    go_wp2_with fail
    refine hf.out.mono ?_
    rintro e w6 ⟨l', hl', v6, rfl, o6, hb6⟩
    obtain ⟨A6, c6, rfl, -, -⟩ := o6.sees.mk_
    have k0 := (hb6.cell (p := ⟨g, i * 3 + 2, none⟩) hgl).trans z2
    have fz := (o3.out.below hb6).frozen (i * 3 + 2)
    have hdone : LkS w1 (.slice (some ⟨g, 0, none⟩) ls.length c3) (w6.setCell ⟨g, i * 3 + 2, none⟩ (.slice A6 l'.length c6)) := by
     have hp := (o3.out.below hb6).put (j := i * 3 + 2) (s := .byt l') (by omega) (EltS.of_from o6.sees o6.from (fun j hj => by cases hj; exact hgl)) (o6.from.mono hb2.size)
     rw [hset.out l' hiN] at hp
     have hL := hel2.out (t1, t2, l') (by have := hkl.out; dsimp only; omega)
     refine ⟨_, ?_, ?_, hL, ((bgo hb2 hb6).setCell (p := ⟨g, i * 3 + 2, none⟩) hgb _)⟩
     · rw [List.length_set]; exact hp.own.sees
     · rw [List.length_set]; omega
    replace hkl := Lib.hid hkl
    replace hl' := Lib.hid hl'
    clear z0 z1 z2
    dsimp only
    go_wp2_with fail
    go_meet
    exact hdone
 case rest =>
 obtain ⟨ls2, s2, hl2, he2, hb3⟩ := hcut
 obtain ⟨W2, rfl⟩ : ∃ W2 : World, W2 = wc := ⟨_, rfl⟩
 obtain ⟨A9, c9, hv9, -, -⟩ := s2.mk_
 rw [hv9] at s2
 rw [hv9]
 have he3 : ∀ t ∈ ls2, t.1.length ≤ 1048576 ∧ t.2.1.length ≤ 1048576 ∧ t.2.2.length ≤ 1048576 := fun t ht => by have := he2 t ht; omega
 have hf1 := Lib.hid (bfind_any W2.heap.size _ ls2 W2 s2 (Nat.le_refl _) (by omega) he3)
 have hf2 := Lib.hid (fun W (hW : Below W2.heap.size W2 W) => rbfind_any W2.heap.size _ ls2 W (s2.below hW) hW.size (by omega) he3)
 have hps := Lib.hid (fun u v ls f s W (hu : SeesR W W.heap.size u 3 ls.length (linkS ls)) (hv : SeesR W W.heap.size v 3 ls.length (linkS ls)) (hn : ls.length ≤ 1000) => psame_any u v ls f s W hu hv hn)
 replace hb3 := Lib.hid (bgo hb1 hb3)
 clear hi2 hc3 hc4 hgl hgb hN hiN hN3 hlen hel hel' o3 hb2 hb1 s2 he2 hfl hwi hwi2 hi hv9 he3 hch hbw
 go_wp2_with fail
 refine hf1.out.mono ?_
 intro e w4 h4
 obtain ⟨ok, f, s, C, ls3, hl3, ⟨v4, rfl, s4, hb4⟩, hq⟩ := find_q h4
 have h5 := Lib.hid (fun W hW => (hf2.out W hW).mono (fun e w' h => hq _ e w' h))
 obtain ⟨A4, c4, rfl, -, -⟩ := s4.mk_
 have x4 := Box.new w4 47 [.slice A4 ls3.length c4, .int .i64 f, .int .i64 s]
 have hal := balloc w4 (.cells #[.slice A4 ls3.length c4, .int .i64 f, .int .i64 s] 47)
 change Box (w4.alloc (.cells #[.slice A4 ls3.length c4, .int .i64 f, .int .i64 s] 47)) _ _ _ at x4
 have h6 := Lib.hid (h5.out _ (bgo hb4 hal))
 replace hb4 := bgo (bgo hb3.out hb4) hal
 replace s4 := (s4.below hal).more hal.size
 replace hl3 := Lib.hid (show ls3.length ≤ 1000 by omega)
 clear h4 hq h5 hal hf1 hf2 hb3
 dsimp only
 go_upto_region 7 with (fail)
 generalize w4.alloc (.cells #[.slice A4 ls3.length c4, .int .i64 f, .int .i64 s] 47) = W4 at *
 generalize w4.heap.size = g4 at *
 go_wp2_with fail
 refine h6.out.mono ?_
 rintro e w5 ⟨v5, rfl, s5, hb5⟩
 obtain ⟨A5, c5, rfl, -, -⟩ := s5.mk_
 have x5 := Box.new w5 47 [.slice A5 ls3.length c5, .int .i64 f, .int .i64 s]
 have hal := balloc w5 (.cells #[.slice A5 ls3.length c5, .int .i64 f, .int .i64 s] 47)
 change Box (w5.alloc (.cells #[.slice A5 ls3.length c5, .int .i64 f, .int .i64 s] 47)) _ _ _ at x5
 replace x4 := x4.below (bgo hb5 hal)
 replace s4 := (s4.below (bgo hb5 hal)).more (bgo hb5 hal).size
 replace s5 := (s5.below hal).more hal.size
 replace hb4 := bgo hb4 (bgo hb5 hal)
 clear hb5 hal h6
 dsimp only
 go_upto_region 8 with (fail)
 generalize w5.alloc (.cells #[.slice A5 ls3.length c5, .int .i64 f, .int .i64 s] 47) = W5 at *
 generalize w5.heap.size = g5 at *
 go_wp2_with fail
 refine (hkn.out _).mono ?_
 rintro e w7 ⟨rfl, hb7⟩
 replace x4 := x4.below hb7
 replace x5 := x5.below hb7
 replace s4 := Lib.hid ((s4.below hb7).more hb7.size)
 replace s5 := Lib.hid ((s5.below hb7).more hb7.size)
 replace hb4 := Lib.hid (bgo hb4 hb7)
 obtain ⟨k0, k1, k2, -, -, -⟩ := box3_cells x4
 obtain ⟨m0, m1, m2, -, -, -⟩ := box3_cells x5
 have h8 := Lib.hid (hps.out _ _ ls3 f s w7 s4.out s5.out hl3.out)
 dsimp only
 go_wp2_with fail
 refine h8.out.mono ?_
 rintro e w8 ⟨rfl, hb8⟩
 have hb9 := Lib.hid (bgo hb4.out hb8)
 clear k0 k1 k2 m0 m1 m2 h8
 dsimp only
 go_wp2_with fail
 go_ret
 exact ⟨rfl, hb9.out⟩
end Go.Proofs.YtemopnhhmilhbaaGreat

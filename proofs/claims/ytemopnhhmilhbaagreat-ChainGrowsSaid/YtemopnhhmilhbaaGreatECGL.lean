/- Contracts of chains, and the walks of their laws. Conditions: those of each theorem. -/
import Derived.Outline
import Derived.BigQuiet
import Derived.Test.YtemopnhhmilhbaaGreatEHonK
import Derived.Test.YtemopnhhmilhbaaGreatECAdd
import Derived.Test.YtemopnhhmilhbaaGreatECVer
import Derived.Test.YtemopnhhmilhbaaGreatERCSame
import Derived.Test.YtemopnhhmilhbaaGreatE1
namespace Go.Proofs.YtemopnhhmilhbaaGreat
open Go Go.RowKit
set_option linter.unusedVariables false
set_option linter.unusedSimpArgs false
attribute [local go_sem ↓] Go.wp_at_zero Go.wp_at_succ
theorem spF_spans (l : List Int) (n : Nat) : spF l n = spanC2 ((List.range n).map (spT l)) := by
 unfold spF spanC2
 rw [List.flatMap_map]
theorem spanC2_take (vs : List (Int × Int)) : ∀ m, (spanC2 vs).take (m * 2) = spanC2 (vs.take m) := by
 induction vs with
 | nil => intro m; simp [spanC2]
 | cons a r ih =>
   intro m
   cases m with
   | zero => simp [spanC2]
   | succ m =>
     have := ih m
     rw [List.take_succ_cons, show (m + 1) * 2 = 2 + m * 2 by omega]
     show ([Value.int .i64 a.1, .int .i64 a.2] ++ spanC2 r).take (2 + m * 2) = [Value.int .i64 a.1, .int .i64 a.2] ++ spanC2 (r.take m)
     rw [← this, List.take_append, List.take_of_length_le (by simp)]
     simp
theorem range_take (f : Nat → Int × Int) (m n : Nat) (h : m ≤ n) : ((List.range n).map f).take m = (List.range m).map f := by
 rw [← List.map_take, List.take_range, Nat.min_eq_left h]
theorem span_sz (w : World) : (sizeOf 40).run Tryz.prog w = .ok 2 w := by kernel_rfl
set_option maxRecDepth 100000 in
set_option maxHeartbeats 1000000 in
theorem cgrows_law (v : Int) (wf0 : (Lit.int .i64 v).wf = true) (B : Nat) (u : Value) (l : List Int) (w : World) (s : SeesT w B u l) (hB : B ≤ w.heap.size) :
 Calls Tryz.prog 4 #[.int .i64 v, u] w fun e w' => e = .returned (.bool true) ∧ Below w.heap.size w w' := by
 obtain ⟨Ar, cr, rfl, -, -⟩ := s.mk_
 clear wf0
 have hkn := Lib.hid (fun W => cknown_any W)
 have hsp := Lib.hid (spans_any _ l w (s.more hB))
 clear s hB
 go_enter Tryz.func4, Tryz.ntmps4
 go_wp2_with fail
 refine hsp.out.mono ?_
 rintro e w1 ⟨v1, v2, rfl, r1, r2, hb1⟩
 have hN := spN_bounds l
 generalize spN l = N at *
 have hch := kchain_any v N (by omega) (whT l) (spT l) (whF l N) (spF l N) (fun k hk => whF_get l N k hk) (fun k hk => spF_get l N k hk) (fun k => by have := whT_bounds l k; omega) (fun k _ => ⟨small_vS (spT_bounds l k), small_inS (spT_bounds l k)⟩) _ _ w1 (Sees.of_own r2) (Sees.of_own r1)
 have ss := Sees.of_own r1
 obtain ⟨A1, c1, rfl, hc1, -⟩ := ss.mk_
 obtain ⟨A2, c2, rfl, -, -⟩ := (Sees.of_own r2).mk_
 replace hch := Lib.hid hch
 replace ss := Lib.hid ss
 clear hsp r1 r2
 dsimp only
 go_wp2_with fail
 refine hch.out.mono ?_
 rintro e w2 ⟨v3, ls, rfl, o3, rfl, hel, hon, hb2⟩
 obtain ⟨g, c3, rfl, hgb, hgl, hc3, hc4⟩ := o3.at_ (by omega)
 have hver := fun k (hk : k < ls.length) => honK_add (hon k hk) hk (by omega) hel (small_vS (spT_bounds l k)) (small_inS (spT_bounds l k))
 have hall := hon_all (ls := ls) (sp := spT l) (by omega) (fun k hk => ⟨(hver k hk).2.2.2.1, (hver k hk).2.2.2.2⟩)
 have hel' : ∀ t ∈ ls, t.1.length ≤ 1048576 ∧ t.2.1.length ≤ 1048576 ∧ t.2.2.length ≤ 1048576 := fun t ht => by have := hel t ht; omega
 obtain ⟨b1, o1, rfl, hb1', hcs⟩ := (ss.out.below hb2).at_ (by omega)
 have hb1l : b1 < w2.heap.size := Nat.lt_of_lt_of_le hb1' hb2.size
 have ss2 := Lib.hid ((ss.out.below hb2).more hb2.size)
 have hbw := Lib.hid (bgo hb1 hb2)
 obtain ⟨m, hm⟩ : ∃ m, ls.length = m + 1 := ⟨ls.length - 1, by omega⟩
 replace hm := Lib.hid hm
 replace hver := Lib.hid hver
 replace hall := Lib.hid hall
 replace hel := Lib.hid hel
 replace hel' := Lib.hid hel'
 replace hon := Lib.hid hon
 replace o3 := Lib.hid o3
 replace hcs := Lib.hid hcs
 clear hch ss
 dsimp only
 go_wp2_with fail
 go_loopw [8, 9] (fun r t wr => ∃ k : Nat, k ≤ ls.length ∧ t = .int .i64 k ∧ Hid (SeesR wr wr.heap.size r 3 k (linkS (ls.take k))) ∧ Hid (Below w2.heap.size w2 wr)) (fun _ t _ => ls.length - (intOf t).toNat)
 case atStart => exact ⟨0, by omega, rfl, by show SeesR _ _ _ _ _ _; simpa [linkS] using SeesR.nil w2 w2.heap.size 3, Below.refl _ _⟩
 case round =>
  obtain ⟨k, hk, rfl, hr, hb⟩ := hrel
  obtain ⟨Ao, co, rfl, hco, -⟩ := hr.out.mk_
  by_cases hlt : k < ls.length
  · have i0 : (k : Int) < (ls.length : Int) := by omega
    have j0 : (0 : Int) ≤ (k : Int) := by omega
    obtain ⟨A0, d0, A1', d1, A2', d2, z0, z1, z2, e0, e1, e2⟩ := own_link (o3.out.below hb.out) k hlt
    obtain ⟨va, vb, vc, -, -⟩ := hver.out k hlt
    have htk : (ls.take k).length = k := by rw [List.length_take]; omega
    have htk2 : (ls.take (k + 1)).length = k + 1 := by rw [List.length_take]; omega
    have hadd := cadd_any _ _ _ _ (ls.take k) (linkT ls k) wr (by rw [htk]; exact hr.out) e0.1.1 e1.1.1 e2.1.1 (by omega) (fun x hx => hel'.out x (List.mem_of_mem_take hx)) (hel'.out _ (linkT_mem ls k hlt))
    unfold AddP at hadd
    rw [va, vb, vc, htk2] at hadd
    have x0 := ((hb.out.cell (p := ⟨b1, o1 + k * 2, none⟩) hb1l).trans (hcs.out _ _ (spF_get l ls.length k hlt).1))
    have x1 := ((hb.out.cell (p := ⟨b1, o1 + (k * 2 + 1), none⟩) hb1l).trans (hcs.out _ _ (spF_get l ls.length k hlt).2))
    rw [← Nat.add_assoc] at x1
    generalize (spT l k).1 = lo at *
    generalize (spT l k).2 = hi at *
    generalize (linkT ls k).1.length = n1 at *
    generalize (linkT ls k).2.1.length = n2 at *
    generalize (linkT ls k).2.2.length = n3 at *
    have hb1w : b1 < wr.heap.size := Nat.lt_of_lt_of_le hb1l hb.out.size
    replace hadd := Lib.hid hadd
    clear e0 e1 e2 va vb vc htk htk2 hr
    go_wp2_with fail
    refine hadd.out.mono ?_
    rintro e w4 ⟨v4, rfl, p4, hb4⟩
    obtain ⟨A4, c4, rfl, -, -⟩ := p4.mk_
    have hal := balloc w4 (.cells #[.int .i64 lo, .int .i64 hi] 40)
    obtain ⟨y0, y1⟩ := boxT2 (Box.new w4 40 [.int .i64 lo, .int .i64 hi])
    change (w4.alloc (.cells #[.int .i64 lo, .int .i64 hi] 40)).cell? _ = _ at y0 y1
    have hb6 := bgo hb4 hal
    have x0' := (hb6.cell (p := ⟨b1, o1 + k * 2, none⟩) hb1w).trans x0
    have x1' := (hb6.cell (p := ⟨b1, o1 + k * 2 + 1, none⟩) hb1w).trans x1
    have p5 := Lib.hid ((p4.below hal).more hal.size)
    have hb7 := Lib.hid (bgo hb.out hb6)
    clear z0 z1 z2 hadd p4 hb4 hal hb6 x0 x1
    dsimp only
    go_upto_region 8 with (fail)
    generalize w4.alloc (.cells #[.int .i64 lo, .int .i64 hi] 40) = W4 at *
    generalize w4.heap.size = g7 at *
    have iw : IntKind.i64.wrap ((k : Int) + 1) = (k : Int) + 1 := by rw [IntKind.wrap_i64]; omega
    go_quiet (fail)
    have hq := below_drewN (Below.refl W4.heap.size W4) nq
    go_wp2_with fail
    go_roundw
    case rel => exact ⟨k + 1, by omega, by go_num, (p5.out.below hq).more hq.size, bgo hb7.out hq⟩
    case measure => simp [intOf]; omega
  · obtain rfl : k = ls.length := by omega
    have i0 : ¬ (ls.length : Int) < (ls.length : Int) := by omega
    have hr2 := hr.out
    rw [List.take_length] at hr2
    have hb := hb.out
    obtain ⟨q1, q2⟩ := hall.out ls.length (Nat.le_refl _)
    rw [List.take_length] at q1 q2
    have hm1 : m < ls.length := by have := hm.out; omega
    obtain ⟨q3, q4⟩ := hall.out m (by omega)
    have htk : (ls.take m).length = m := by rw [List.length_take]; omega
    have hv1 := cverify_any wr.heap.size _ ls wr hr2 (Nat.le_refl _) (by omega) (fun t ht => by have := hel'.out t ht; omega)
    have hcut := links_cut o3.out.own.sees rfl (a := 0) (b := m) (Nat.zero_le _) (by omega)
    rw [List.drop_zero, Nat.sub_zero, Nat.sub_zero] at hcut
    have hrc := run_cut_to (P := Tryz.prog) 26 Tryz.underlying26 3 link_size (some ⟨g, 0, none⟩) ls.length c3 .i64 (m : Int) (by omega) (by omega)
    rw [Int.toNat_natCast, Nat.sub_zero, Nat.sub_zero] at hrc
    have hsc := Sees.cut (l := 0) (h' := m) ss2.out (Nat.zero_le _) (by omega)
    rw [Nat.zero_mul, List.drop_zero, Nat.sub_zero, Nat.sub_zero, spF_spans, spanC2_take, range_take _ m ls.length (by omega)] at hsc
    have hrs := run_cut_to (P := Tryz.prog) 23 Tryz.underlying23 2 span_sz (some ⟨b1, o1, none⟩) ls.length c1 .i64 (m : Int) (by omega) (by omega)
    rw [Int.toNat_natCast, Nat.sub_zero, Nat.sub_zero] at hrs
    have hs1 := ss2.out
    rw [spF_spans] at hs1
    generalize cutA (some ⟨g, 0, none⟩) c3 0 3 = A8 at *
    generalize cutA (some ⟨b1, o1, none⟩) c1 0 2 = A9 at *
    have hv2 := fun W (hW : Below w2.heap.size w2 W) => cverify_any W.heap.size (.slice A8 m c3) (ls.take m) W (by rw [htk]; exact (hcut.below hW).more hW.size) (Nat.le_refl _) (by omega) (fun t ht => by have := hel'.out t (List.mem_of_mem_take ht); omega)
    unfold CVerP at hv1 hv2
    rw [q1, q2] at hv1
    rw [q3, q4] at hv2
    have hsame := fun W (hW : Below wr.heap.size wr W) => rcsame_eq _ _ ls W ((hr2.below hW).more hW.size) ((o3.out.own.sees.below (bgo hb hW)).more (bgo hb hW).size) (by omega)
    have hl1 : ((List.range ls.length).map (spT l)).length = ls.length := by simp
    have hl2 : ((List.range m).map (spT l)).length = m := by simp
    have g1 := spanC2_get ((List.range ls.length).map (spT l))
    have g2 := spanC2_get ((List.range m).map (spT l))
    generalize (List.range ls.length).map (spT l) = V1 at *
    generalize (List.range m).map (spT l) = V2 at *
    rw [hl1] at hv1 g1
    rw [hl2] at hv2 g2
    have i1 : (ls.length : Int) - 1 = (m : Int) := by have := hm.out; omega
    have i2 : IntKind.i64.wrap (m : Int) = (m : Int) := by rw [IntKind.wrap_i64]; omega
    have j0 : (0 : Int) ≤ (m : Int) := by omega
    have j1 : (m : Int) ≤ (c3 : Int) := by omega
    have j2 : (m : Int) ≤ (c1 : Int) := by omega
    replace hv1 := Lib.hid hv1
    replace hv2 := Lib.hid hv2
    replace hsame := Lib.hid hsame
    replace g1 := Lib.hid g1
    replace g2 := Lib.hid g2
    replace hs1 := Lib.hid hs1
    replace hsc := Lib.hid hsc
    replace hl1 := Lib.hid hl1
    replace hl2 := Lib.hid hl2
    replace htk := Lib.hid htk
    replace q1 := Lib.hid q1
    replace q2 := Lib.hid q2
    replace q3 := Lib.hid q3
    replace q4 := Lib.hid q4
    clear hr hr2 hcut o3 hel hel' hon hver hall hcs
    go_wp2_with fail
    refine hv1.out.mono ?_
    rintro e w4 ⟨v4, rfl, p4, hb4⟩
    have h2 := Lib.hid (hv2.out w4 (bgo hb hb4))
    obtain ⟨A4, c4, rfl, -, -⟩ := p4.mk_
    have p4' := Lib.hid (spanC2_sees p4)
    clear hv1 hv2 p4
    dsimp only
    go_wp2_with fail
    refine h2.out.mono ?_
    rintro e w5 ⟨v5, rfl, p5, hb5⟩
    obtain ⟨A5, c5, rfl, -, -⟩ := p5.mk_
    have p5' := Lib.hid (spanC2_sees p5)
    have hb6 := Lib.hid (bgo hb4 hb5)
    replace p4' := Lib.hid ((p4'.out.below hb5).more hb5.size)
    clear p5 h2 hb4 hb5
    dsimp only
    go_wp2_with fail
    refine (hkn.out _).mono ?_
    rintro e w7 ⟨rfl, hb7⟩
    have h8 := Lib.hid (hsame.out w7 (bgo hb6.out hb7))
    dsimp only
    go_wp2_with fail
    refine h8.out.mono ?_
    rintro e w8 ⟨rfl, hb8⟩
    have hb9 := bgo hb7 hb8
    have hbX := bgo hb (bgo hb6.out hb9)
    have h9 := Lib.hid (same_true w8.heap.size _ _ ls.length (fun k => (V1.getD k (0, 0)).1) (fun k => (V1.getD k (0, 0)).2) (spanC2 V1) w8 ((p4'.out.below hb9).more hb9.size) ((hs1.out.below hbX).more hbX.size) (fun k hk => g1.out k hk))
    have h10 := Lib.hid (fun W (hW : Below w8.heap.size w8 W) => same_true W.heap.size _ _ m (fun k => (V2.getD k (0, 0)).1) (fun k => (V2.getD k (0, 0)).2) (spanC2 V2) W ((p5'.out.below (bgo hb9 hW)).more (bgo hb9 hW).size) ((hsc.out.below (bgo hbX hW)).more (bgo hbX hW).size) (fun k hk => g2.out k hk))
    have hbY := Lib.hid (bgo hbw.out hbX)
    clear hb8 hb9 hbX hb7
    dsimp only
    go_wp2_with fail
    refine h9.out.mono ?_
    rintro e w9 ⟨rfl, m1, rfl⟩
    have h11 := Lib.hid (h10.out (w8.drewN m1) (below_drewN (Below.refl _ _) m1))
    dsimp only
    go_wp2_with fail
    refine h11.out.mono ?_
    rintro e w9 ⟨rfl, m2, rfl⟩
    have hbZ := Lib.hid (below_drewN hbY.out (m1 + m2))
    dsimp only
    go_wp2_with fail
    go_ret
    exact ⟨rfl, hbZ.out⟩
end Go.Proofs.YtemopnhhmilhbaaGreat

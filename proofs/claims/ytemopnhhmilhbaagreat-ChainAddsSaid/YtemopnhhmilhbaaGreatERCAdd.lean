/- Contracts of chains, and the walks of their laws. Conditions: those of each theorem. -/
import Derived.BigQuiet
import Derived.Test.YtemopnhhmilhbaaGreatE1
import Derived.Test.YtemopnhhmilhbaaGreatD24
import Derived.Test.YtemopnhhmilhbaaGreatECAdd
namespace Go.Proofs.YtemopnhhmilhbaaGreat
open Go Go.RowKit
set_option linter.unusedVariables false
set_option linter.unusedSimpArgs false
attribute [local go_sem ↓] Go.wp_at_zero Go.wp_at_succ
set_option maxRecDepth 100000 in
set_option maxHeartbeats 8000000 in
theorem rcadd_any (u v1 v2 v3 : Value) (ls : List LinkG) (t : LinkG) (w : World) (hu : SeesR w w.heap.size u 3 ls.length (linkS ls)) (h1 : SeesB w w.heap.size v1 t.1) (h2 : SeesB w w.heap.size v2 t.2.1) (h3 : SeesB w w.heap.size v3 t.2.2) (hn : ls.length ≤ 1000)
 (hl : ∀ t ∈ ls, t.1.length ≤ 1048576 ∧ t.2.1.length ≤ 1048576 ∧ t.2.2.length ≤ 1048576) (ht : t.1.length ≤ 1048576 ∧ t.2.1.length ≤ 1048576 ∧ t.2.2.length ≤ 1048576) :
 Calls Tryz.prog 26 #[u, .agg #[v1, v2, v3]] w (AddP ls t w) := by
 obtain ⟨A, c, rfl, -, -⟩ := hu.mk_
 obtain ⟨A1, c1, rfl, -, -⟩ := h1.mk_
 obtain ⟨A2, c2, rfl, -, -⟩ := h2.mk_
 obtain ⟨A3, c3, rfl, -, -⟩ := h3.mk_
 obtain ⟨ti, hti, htz, hts, htb⟩ := info_parts link_infoC
 replace hti := Lib.hid hti
 replace htz := Lib.hid htz
 replace hts := Lib.hid hts
 replace htb := Lib.hid htb
 have hal := bgo (balloc w (.cells #[.slice A1 t.1.length c1, .slice A2 t.2.1.length c2, .slice A3 t.2.2.length c3] 32)) (balloc _ (.cells #[.int .i64 0, .int .i64 0] 40))
 have x3 := (Box.new w 32 [.slice A1 t.1.length c1, .slice A2 t.2.1.length c2, .slice A3 t.2.2.length c3]).below (balloc _ (.cells #[.int .i64 0, .int .i64 0] 40))
 have x5 := Box.new (w.alloc (.cells #[.slice A1 t.1.length c1, .slice A2 t.2.1.length c2, .slice A3 t.2.2.length c3] 32)) 40 [.int .i64 0, .int .i64 0]
 rw [World.size_alloc] at x5
 change Box ((w.alloc (.cells #[.slice A1 t.1.length c1, .slice A2 t.2.1.length c2, .slice A3 t.2.2.length c3] 32)).alloc (.cells #[.int .i64 0, .int .i64 0] 40)) _ _ _ at x3 x5
 replace hu := Lib.hid ((hu.below hal).more hal.size)
 replace h1 := Lib.hid (seesB_of h1 (Nat.le_refl _) hal)
 replace h2 := Lib.hid (seesB_of h2 (Nat.le_refl _) hal)
 replace h3 := Lib.hid (seesB_of h3 (Nat.le_refl _) hal)
 replace hal := Lib.hid hal
 replace hl := Lib.hid hl
 have hl1 : Hid (∀ s ∈ [t], s.1.length ≤ 1048576 ∧ s.2.1.length ≤ 1048576 ∧ s.2.2.length ≤ 1048576) := fun s hs => by
  rw [List.mem_singleton] at hs
  subst hs
  exact ht
 have ht3 := Lib.hid ht.2.2
 clear ht
 have hCC : Hid (addC ls t = if nextC ls t.2.1 = 0 then dverC t.1 (nextG ls t.2.1) t.2.2 else nextC ls t.2.1) := rfl
 go_enter Tryz.func26, Tryz.ntmps26
 go_upto_region 1 with (fail)
 generalize (w.alloc (.cells #[.slice A1 t.1.length c1, .slice A2 t.2.1.length c2, .slice A3 t.2.2.length c3] 32)).alloc (.cells #[.int .i64 0, .int .i64 0] 40) = W0 at *
 have hg5 : Hid (w.heap.size ≤ w.heap.size + 1) := by show _ ≤ _; omega
 have h35 : Hid (w.heap.size ≠ w.heap.size + 1) := by show _ ≠ _; omega
 generalize w.heap.size + 1 = g5 at x5 hg5 h35 ⊢
 have hg3 : Hid (w.heap.size ≤ w.heap.size) := Nat.le_refl _
 generalize w.heap.size = g3 at x3 h35 ⊢
 have hne := Lib.hid (rnext_any W0.heap.size W0.heap.size _ _ ls t.2.1 W0 hu.out (Nat.le_refl _) h2.out (Nat.le_refl _))
 unfold NextP at hne
 generalize nextC ls t.2.1 = C1 at *
 generalize hN : nextG ls t.2.1 = N at *
 replace hN := Lib.hid hN
 obtain ⟨k1, k2, k3, -, -, -⟩ := box3_cells x3
 go_wp2_with fail
 refine hne.out.mono ?_
 rintro e w1 ⟨vn, rfl, o1, hb1⟩
 obtain ⟨A4, c4, rfl, -, -⟩ := o1.sees.mk_
 clear hne k1 k2 k3
 replace x3 := x3.below hb1
 replace x5 := x5.below hb1
 replace hu := Lib.hid ((hu.out.below hb1).more hb1.size)
 replace h1 := Lib.hid (seesB_of h1.out (Nat.le_refl _) hb1)
 replace h2 := Lib.hid (seesB_of h2.out (Nat.le_refl _) hb1)
 replace h3 := Lib.hid (seesB_of h3.out (Nat.le_refl _) hb1)
 have hbw := Lib.hid (bgo hal.out hb1)
 have sn := Lib.hid o1.sees
 clear hal hb1 o1
 dsimp only
 by_cases E1 : C1 = 0
 rotate_left
 · have hE : (C1 == 0) = false := by simp [E1]
   have hC : Hid (addC ls t = C1) := by show _ = _; rw [hCC.out, if_neg E1]
   replace E1 := Lib.hid E1
   obtain ⟨y0, y1, f0, f1⟩ := box2_cells x5
   go_wp2_with fail
   have k := box_set2 x5 (.int .i64 0) (.int .i64 0)
   have kb := Lib.hid (below_set2 hbw.out hg5.out (.int .i64 0) (.int .i64 0))
   clear y0 y1 f0 f1 x5
   generalize (w1.setCell ⟨g5, 0, none⟩ (.int .i64 0)).setCell ⟨g5, 1, none⟩ (.int .i64 0) = W9 at *
   obtain ⟨z0, z1⟩ := boxT2 k
   refine bodyPost_ret (v := .tuple #[.slice none 0 0, .agg #[.int .i64 0, .int .i64 0], .int .i64 C1]) (by simp [results, Tryz.results26, go_sem, z0, z1]) rfl ?_
   exact add_bad hC.out E1.out kb.out
 subst E1
 replace hCC : Hid (addC ls t = dverC t.1 N t.2.2) := by show _ = _; rw [hCC.out, if_pos rfl]
 obtain ⟨k1, k2, k3, -, -, -⟩ := box3_cells x3
 have hv := Lib.hid (rdverify_any w1.heap.size _ _ _ t.1 N t.2.2 w1 h1.out sn.out h3.out (Nat.le_refl _) ht3.out)
 unfold DVerP at hv
 have hLo : Hid (dverLo t.1 N t.2.2 = dverLo t.1 N t.2.2) := rfl
 generalize hlo : dverLo t.1 N t.2.2 = lo at *
 generalize hhi : dverHi t.1 N t.2.2 = hi at *
 replace hlo := Lib.hid hlo
 replace hhi := Lib.hid hhi
 generalize dverC t.1 N t.2.2 = E2 at *
 clear hLo
 go_wp2_with fail
 refine hv.out.mono ?_
 rintro e w2 ⟨rfl, hb2⟩
 clear hv k1 k2 k3 sn
 have h95 : Hid (w2.heap.size ≠ g5) := by show _ ≠ _; have := x5.lt; have := hb2.size; omega
 have hal := balloc w2 (.cells #[.int .i64 lo, .int .i64 hi] 40)
 have hbx := bgo hb2 hal
 have x9 := Box.new w2 40 [.int .i64 lo, .int .i64 hi]
 change Box (w2.alloc (.cells #[.int .i64 lo, .int .i64 hi] 40)) _ _ _ at x9
 replace x3 := x3.below hbx
 replace x5 := x5.below hbx
 replace hu := Lib.hid ((hu.out.below hbx).more hbx.size)
 replace h1 := Lib.hid (seesB_of h1.out (Nat.le_refl _) hbx)
 replace h2 := Lib.hid (seesB_of h2.out (Nat.le_refl _) hbx)
 replace h3 := Lib.hid (seesB_of h3.out (Nat.le_refl _) hbx)
 replace hbw := Lib.hid (bgo hbw.out hbx)
 clear hbx hal hb2
 dsimp only
 by_cases E3 : E2 = 0
 rotate_left
 · have hE : (E2 == 0) = false := by simp [E3]
   replace E3 := Lib.hid E3
   obtain ⟨y0, y1, f0, f1⟩ := box2_cells x5
   go_upto_region 6 with (fail)
   generalize w2.alloc (.cells #[.int .i64 lo, .int .i64 hi] 40) = W1 at *
   go_wp2_with fail
   have k := box_set2 x5 (.int .i64 0) (.int .i64 0)
   have kb := Lib.hid (below_set2 hbw.out hg5.out (.int .i64 0) (.int .i64 0))
   clear y0 y1 f0 f1 x5
   generalize (W1.setCell ⟨g5, 0, none⟩ (.int .i64 0)).setCell ⟨g5, 1, none⟩ (.int .i64 0) = W9 at *
   obtain ⟨z0, z1⟩ := boxT2 k
   refine bodyPost_ret (v := .tuple #[.slice none 0 0, .agg #[.int .i64 0, .int .i64 0], .int .i64 E2]) (by simp [results, Tryz.results26, go_sem, z0, z1]) rfl ?_
   exact add_bad hCC.out E3.out kb.out
 subst E3
 go_upto_region 8 with (fail)
 generalize w2.alloc (.cells #[.int .i64 lo, .int .i64 hi] 40) = W1 at *
 generalize w2.heap.size = g9 at x9 h95 ⊢
 have hg9 := x9.lt
 have hg5l := x5.lt
 have hg3l := x3.lt
 replace x3 := Lib.hid x3
 replace x5 := Lib.hid x5
 replace x9 := Lib.hid x9
 have hCC2 : Hid (addC ls t = 0) := hCC
 have hlo2 : Hid (dverLo t.1 (nextG ls t.2.1) t.2.2 = lo) := by show _ = _; rw [hN.out]; exact hlo.out
 have hhi2 : Hid (dverHi t.1 (nextG ls t.2.1) t.2.2 = hi) := by show _ = _; rw [hN.out]; exact hhi.out
 have hcr : Hid (ls.length + 1 ≤ 1048576) := by show _ ≤ _; omega
 have ht1 : Hid (t.1.length ≤ 1048576) := (hl1.out t (by simp)).1
 have ht2 : Hid (t.2.1.length ≤ 1048576) := (hl1.out t (by simp)).2.1
 clear hl1 hlo hhi hN hCC
 go_wp2_with fail
 go_loopw [10, 11] (fun r t wr => ∃ k : Nat, k ≤ ls.length ∧ t = .int .i64 k ∧ Hid (OwnR wr W1.heap.size 32 r 3 k (linkS (ls.take k))) ∧ Hid (Below W1.heap.size W1 wr)) (fun _ t _ => ls.length - (intOf t).toNat)
 case atStart => exact ⟨0, by omega, rfl, OwnR.nil _ _ _ _, Below.refl _ _⟩
 case round =>
  obtain ⟨k, hk, rfl, ho, hb⟩ := hrel
  obtain ⟨Ar, cr, rfl, -, -⟩ := ho.out.sees.mk_
  by_cases hlt : k < ls.length
  · have i1 : (k : Int) < (ls.length : Int) := by omega
    have i2 : (0 : Int) ≤ (k : Int) := by omega
    have hdk : ls[k]? = some (linkT ls k) := by rw [linkT, List.getD_eq_getElem?_getD, List.getElem?_eq_getElem hlt]; rfl
    have hst := Lib.hid (linkS_take ls k _ hdk)
    obtain ⟨b, o, D1, e1, D2, e2, D3, e3, eA, hbB, z1, s1, z2, s2, z3, s3⟩ := link_at ((hu.out.below hb.out).more hb.out.size) k (linkT ls k) hdk
    subst eA
    obtain ⟨l1, l2, l3⟩ := hl.out _ (List.mem_of_getElem? hdk)
    clear hdk hbB
    generalize linkT ls k = y at *
    have hcp := Lib.hid (rlcopy_any y _ _ _ wr s1 s2 s3 l1 l2 l3)
    clear s1 s2 s3 l1 l2 l3
    go_wp2_with fail
    refine hcp.out.mono ?_
    rintro e w6 ⟨p1, p2, p3, rfl, n1, n2, n3, f1, f2, f3, hb6⟩
    obtain ⟨B1, d1, rfl, -, -⟩ := n1.mk_
    obtain ⟨B2, d2, rfl, -, -⟩ := n2.mk_
    obtain ⟨B3, d3, rfl, -, -⟩ := n3.mk_
    clear hcp z1 z2 z3
    have hal := balloc w6 (.cells #[.slice B1 y.1.length d1, .slice B2 y.2.1.length d2, .slice B3 y.2.2.length d3] 32)
    have hrec : Hid (Sees (w6.alloc (.cells #[.slice B1 y.1.length d1, .slice B2 y.2.1.length d2, .slice B3 y.2.2.length d3] 32)) (w6.heap.size + 1) (.slice (some ⟨w6.heap.size, 0, none⟩) 1 1) 3 1 [.slice B1 y.1.length d1, .slice B2 y.2.1.length d2, .slice B3 y.2.2.length d3]) := rec_lit w6 32 [.slice B1 y.1.length d1, .slice B2 y.2.1.length d2, .slice B3 y.2.2.length d3]
    have ho2 := Lib.hid (ho.out.below (bgo hb6 hal))
    have hlt5 : ∀ j, (Value.slice Ar k cr).ownBlock = some j → j < wr.heap.size := fun j hj => (ho.out.lt j hj).2
    have hel := Lib.hid (link_elts (t := y) (EltS.of_from (v := .slice Ar k cr) (seesB_of n1 (Nat.le_refl _) hal) f1 hlt5) (EltS.of_from (seesB_of n2 (Nat.le_refl _) hal) f2 hlt5) (EltS.of_from (seesB_of n3 (Nat.le_refl _) hal) f3 hlt5))
    have hb3 := Lib.hid (bgo (bgo hb.out hb6) hal)
    have hcr2 : Hid (k + 1 ≤ 1048576) := by show _ ≤ _; omega
    clear hal n1 n2 n3 f1 f2 f3 hb6 hlt5 ho hb
    dsimp only
    go_wp2_with (at_builtin; refine wpList_appR (by rfl) _ _ 26 32 Tryz.underlying26 rfl ti _ 3 72 hti.out htz.out hts.out htb.out rfl (by omega) (by omega) W1.heap.size _ k _ rfl ho2.out _ _ 1 _ [.byt y.1, .byt y.2.1, .byt y.2.2] rfl hrec.out rfl hel.out hcr2.out hb3.out.size ?_)
    intro v' w' hW2 hb4
    replace hW2 : Hid (OwnR w' W1.heap.size 32 v' 3 (k + 1) (linkS (ls.take (k + 1)))) := by show OwnR _ _ _ _ _ _ _; rw [hst.out]; exact hW2
    have hb4 := Lib.hid (hb3.out.trans hb4)
    go_wp2_with fail
    go_roundw
    case rel => first | exact ⟨k + 1, by omega, by go_num, hW2, hb4⟩ | ((repeat apply Exists.intro); exact ⟨⟨k + 1, by omega, by go_num, hW2, hb4⟩, rfl⟩)
    case measure => simp [intOf]; omega
  · obtain rfl : k = ls.length := by omega
    have i1 : ¬ (ls.length : Int) < (ls.length : Int) := by omega
    have ho' := ho.out
    rw [List.take_of_length_le (Nat.le_refl _)] at ho'
    replace ho' := Lib.hid ho'
    have x3w := x3.out.below hb.out
    have x9w := x9.out.below hb.out
    have x5w := Lib.hid (x5.out.below hb.out)
    replace h1 := Lib.hid (seesB_of h1.out (Nat.le_refl _) hb.out)
    replace h2 := Lib.hid (seesB_of h2.out (Nat.le_refl _) hb.out)
    replace h3 := Lib.hid (seesB_of h3.out (Nat.le_refl _) hb.out)
    have K : Hid (∀ W, Below wr.heap.size wr W → W.cell? ⟨g3, 0, none⟩ = some (.slice A1 t.1.length c1) ∧ W.cell? ⟨g3, 1, none⟩ = some (.slice A2 t.2.1.length c2) ∧ W.cell? ⟨g3, 2, none⟩ = some (.slice A3 t.2.2.length c3) ∧ W.cell? ⟨g9, 0, none⟩ = some (.int .i64 lo) ∧ W.cell? ⟨g9, 1, none⟩ = some (.int .i64 hi)) := fun W hW => rd5 (x3w.below hW) (x9w.below hW)
    have hnb : ∀ g, g < W1.heap.size → (Value.slice Ar ls.length cr).ownBlock = some g → False := fun g hg e => by have := (ho.out.lt g e).1; omega
    have hz := hb.out.size
    have hlt5 : ∀ j, (Value.slice Ar ls.length cr).ownBlock = some j → j < wr.heap.size := fun j hj => (ho.out.lt j hj).2
    replace x3w := Lib.hid x3w
    replace x9w := Lib.hid x9w
    clear ho
    obtain ⟨k1, k2, k3, k4, k5⟩ := K.out wr (Below.refl _ _)
    go_wp2_with fail
    go_region_held3 (fun W' : World => W'.cell? ⟨g3, 0, none⟩ = some (.slice A1 t.1.length c1) ∧ W'.cell? ⟨g3, 1, none⟩ = some (.slice A2 t.2.1.length c2) ∧ W'.cell? ⟨g3, 2, none⟩ = some (.slice A3 t.2.2.length c3) ∧ W'.cell? ⟨g9, 0, none⟩ = some (.int .i64 lo) ∧ W'.cell? ⟨g9, 1, none⟩ = some (.int .i64 hi))
     (first | (with_reducible exact K2 _ _) | exact kk | (with_reducible exact K.out _ (by (repeat (first | exact Below.refl _ _ | (refine bgo ?_ (balloc _ _)) | (refine bgo ?_ (bdrew _)) | (refine bgo ?_ (by assumption)))))) | (go_keep; done))
     (first
      | (refine step_appRG (by rfl) _ _ 26 32 Tryz.underlying26 (by rfl) ti _ 3 72 hti.out htz.out hts.out htb.out (by rfl) (by omega) (by omega) W1.heap.size _ ls.length _ (by rfl) ho2.out _ _ 1 _ (linkS [t]) (by rfl) hrec.out (by rfl) hel.out hcr.out hb3.out.size ?_; intro v' w' hW2 hb4 hg4
         have x3r : Box w' g3 32 [.slice A1 t.1.length c1, .slice A2 t.2.1.length c2, .slice A3 t.2.2.length c3] := (hg4.block g3 (Nat.lt_of_lt_of_le hg3l hb3.out.size) (fun e => hnb g3 hg3l e.symm)).trans (x3.out.below hb3.out)
         have x9r : Box w' g9 40 [.int .i64 lo, .int .i64 hi] := (hg4.block g9 (Nat.lt_of_lt_of_le hg9 hb3.out.size) (fun e => hnb g9 hg9 e.symm)).trans (x9.out.below hb3.out)
         have x5r : Box w' g5 40 [.int .i64 0, .int .i64 0] := (hg4.block g5 (Nat.lt_of_lt_of_le hg5l hb3.out.size) (fun e => hnb g5 hg5l e.symm)).trans (x5.out.below hb3.out)
         have kk := rd5 x3r x9r
         have K2 := rd5_set h35.out h95.out x3r x9r
         obtain ⟨y0, y1, f0, f1⟩ := box2_cells x5r)
      | (go_at_call 25; (with_reducible refine (rlcopy_any t _ _ _ _ (seesB_of h1.out (Nat.le_refl _) (by (repeat (first | exact Below.refl _ _ | (refine bgo ?_ (balloc _ _)) | (refine bgo ?_ (bdrew _)) | (refine bgo ?_ (by assumption)))))) (seesB_of h2.out (Nat.le_refl _) (by (repeat (first | exact Below.refl _ _ | (refine bgo ?_ (balloc _ _)) | (refine bgo ?_ (bdrew _)) | (refine bgo ?_ (by assumption)))))) (seesB_of h3.out (Nat.le_refl _) (by (repeat (first | exact Below.refl _ _ | (refine bgo ?_ (balloc _ _)) | (refine bgo ?_ (bdrew _)) | (refine bgo ?_ (by assumption)))))) ht1.out ht2.out ht3.out).mono ?_); rintro e w8 ⟨p1, p2, p3, rfl, n1, n2, n3, f1, f2, f3, hb8⟩
         have hx8 := before (w7 := wr) (by (repeat (first | exact Below.refl _ _ | (refine bgo ?_ (balloc _ _)) | (refine bgo ?_ (bdrew _)) | (refine bgo ?_ (by assumption))))) hb8
         have hr8 := Lib.hid (show Below wr.heap.size wr w8 by (repeat (first | exact Below.refl _ _ | (refine bgo ?_ (balloc _ _)) | (refine bgo ?_ (bdrew _)) | (refine bgo ?_ (by assumption)))))
         obtain ⟨B1, d1, rfl, -, -⟩ := n1.mk_
         obtain ⟨B2, d2, rfl, -, -⟩ := n2.mk_
         obtain ⟨B3, d3, rfl, -, -⟩ := n3.mk_
         have hal := Lib.hid (balloc w8 (.cells #[.slice B1 t.1.length d1, .slice B2 t.2.1.length d2, .slice B3 t.2.2.length d3] 32))
         have hrec : Hid (Sees (w8.alloc (.cells #[.slice B1 t.1.length d1, .slice B2 t.2.1.length d2, .slice B3 t.2.2.length d3] 32)) (w8.heap.size + 1) (.slice (some ⟨w8.heap.size, 0, none⟩) 1 1) 3 1 [.slice B1 t.1.length d1, .slice B2 t.2.1.length d2, .slice B3 t.2.2.length d3]) := rec_lit w8 32 [.slice B1 t.1.length d1, .slice B2 t.2.1.length d2, .slice B3 t.2.2.length d3]
         have ho2 := Lib.hid (ho'.out.below (bgo hr8.out hal.out))
         have hel := Lib.hid (link_elts (t := t) (EltS.of_from (v := .slice Ar ls.length cr) (seesB_of n1 (Nat.le_refl _) hal.out) f1 (fun j hj => Nat.lt_of_lt_of_le (hlt5 j hj) hx8)) (EltS.of_from (seesB_of n2 (Nat.le_refl _) hal.out) f2 (fun j hj => Nat.lt_of_lt_of_le (hlt5 j hj) hx8)) (EltS.of_from (seesB_of n3 (Nat.le_refl _) hal.out) f3 (fun j hj => Nat.lt_of_lt_of_le (hlt5 j hj) hx8)))
         have hb3 := Lib.hid (bgo (bgo hb.out hr8.out) hal.out)))
    all_goals
     go_wp2_with fail
     have k := box_set2 x5r (.int .i64 lo) (.int .i64 hi)
     have ks := Lib.hid (hW2.set2 (x := lo) (y := hi) hg5l x5r)
     have kb := Lib.hid (below_set2 (bgo hbw.out (hb3.out.trans hb4)) hg5.out (.int .i64 lo) (.int .i64 hi))
     clear y0 y1 f0 f1 x5r K2 kk
     generalize (w'.setCell ⟨g5, 0, none⟩ (.int .i64 lo)).setCell ⟨g5, 1, none⟩ (.int .i64 hi) = W9 at *
     obtain ⟨z0, z1⟩ := boxT2 k
     refine bodyPost_ret (v := .tuple #[v', .agg #[.int .i64 lo, .int .i64 hi], .int .i64 0]) (by simp [results, Tryz.results26, go_sem, z0, z1]) rfl ?_
     exact add_ok hCC2.out hlo2.out hhi2.out rfl ks.out.sees kb.out
end Go.Proofs.YtemopnhhmilhbaaGreat

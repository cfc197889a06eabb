/- What a law leans on beyond the base: contracts, plain functions, walks. Conditions: those of each theorem. -/
import Derived.Test.YtjgepckncogdaaaGreatTCtC
import Derived.Test.YtjgepckncogdaaaGreatTUC
import Derived.Test.YtjgepckncogdaaaGreatQCtW
import Derived.Test.YtjgepckncogdaaaGreatTC1
set_option linter.unusedVariables false
set_option linter.unusedSimpArgs false
namespace Go.Proofs.YtjgepckncogdaaaGreat
open Go Go.RowKit
set_option linter.unusedVariables false
set_option linter.unusedSimpArgs false
attribute [local go_sem ↓] Go.wp_at_zero Go.wp_at_succ
theorem below_set2' {B g : Nat} {W : World} (hg : B ≤ g) (x y : Value) : Below B W ((W.setCell ⟨g, 0, none⟩ x).setCell ⟨g, 1, none⟩ y) :=
 ((Below.refl B W).setCell (p := ⟨g, 0, none⟩) hg _).setCell (p := ⟨g, 1, none⟩) hg _
set_option maxRecDepth 100000 in
set_option maxHeartbeats 8000000 in
theorem crwin_any (B : Nat) (u u2 : Value) (r : Bs) (cs : List CertG) (w : World) (hu : SeesB w B u r) (hu2 : SeesR w B u2 5 cs.length (certS cs)) (hB : B ≤ w.heap.size) (hl : ∀ c ∈ cs, c.2.2.2.2.length ≤ 1048576) (hn : cs.length ≤ 1048576) :
 Calls Tryz.prog 39 #[u, u2] w (WinP r cs w) := by
 obtain ⟨Ar, cr, rfl, -, -⟩ := hu.mk_
 obtain ⟨Ac, cc, rfl, -, -⟩ := hu2.mk_
 by_cases h14 : 1 ≤ cs.length ∧ cs.length ≤ 4
 · have i1 : ¬ (cs.length : Int) < 1 := by omega
   have i2 : ¬ (4 : Int) < (cs.length : Int) := by omega
   have hal := bgo (balloc w (.cells #[.int .i64 0, .int .i64 0] 24)) (balloc _ (.cells #[.int .i64 (-1152921504606846976), .int .i64 1152921504606846976] 24))
   have x4 := (Box.new w 24 [.int .i64 0, .int .i64 0]).below (balloc _ (.cells #[.int .i64 (-1152921504606846976), .int .i64 1152921504606846976] 24))
   have x6 := Box.new (w.alloc (.cells #[.int .i64 0, .int .i64 0] 24)) 24 [.int .i64 (-1152921504606846976), .int .i64 1152921504606846976]
   rw [World.size_alloc] at x6
   change Box ((w.alloc (.cells #[.int .i64 0, .int .i64 0] 24)).alloc (.cells #[.int .i64 (-1152921504606846976), .int .i64 1152921504606846976] 24)) _ _ _ at x4 x6
   have s0 : Hid (SeesB ((w.alloc (.cells #[.int .i64 0, .int .i64 0] 24)).alloc (.cells #[.int .i64 (-1152921504606846976), .int .i64 1152921504606846976] 24)) w.heap.size (.slice Ar r.length cr) r) := (SeesB.more hu hB).below hal
   have hc0 := Lib.hid (hu2.more hB)
   clear hu hu2
   go_enter Tryz.func39, Tryz.ntmps39
   go_upto_region 4 with (fail)
   generalize (w.alloc (.cells #[.int .i64 0, .int .i64 0] 24)).alloc (.cells #[.int .i64 (-1152921504606846976), .int .i64 1152921504606846976] 24) = W0 at *
   replace hal := Lib.hid hal
   have hg46 : Hid (w.heap.size ≤ w.heap.size + 1 ∧ w.heap.size + 1 ≠ w.heap.size) := by show _ ∧ _; omega
   generalize hgg6 : w.heap.size + 1 = g6 at x6 hg46 ⊢
   obtain ⟨g4, hg4⟩ : ∃ x, x = w.heap.size := ⟨_, rfl⟩
   rw [← hg4] at x4 ⊢
   have hg46' : Hid (w.heap.size ≤ g6 ∧ g6 ≠ g4) := by rw [hg4]; exact hg46
   replace hg46 := hg46'
   clear hg46'
   replace hg4 := Lib.hid hg4
   replace hgg6 := Lib.hid hgg6
   replace x4 := Lib.hid x4
   replace x6 := Lib.hid x6
   go_wp2_with fail
   go_loopw [7, 8, 9] (fun vs vr t wr => ∃ k : Nat, k ≤ cs.length ∧ t = .int .i64 k ∧ vs = .bool (metL (winL cs) k).1 ∧ Hid (SeesB wr w.heap.size vr (parG r cs k)) ∧ Hid (chkK r cs k = 0) ∧ Hid (Box wr g6 24 [.int .i64 (metL (winL cs) k).2.1, .int .i64 (metL (winL cs) k).2.2]) ∧ Hid (Box wr g4 24 [.int .i64 0, .int .i64 0]) ∧ Hid (Below w.heap.size w wr)) (fun _ _ t _ => cs.length - (intOf t).toNat)
   case atStart => exact ⟨0, by omega, rfl, rfl, s0, rfl, x6, x4, hal⟩
   case round =>
    obtain ⟨k, hk, rfl, rfl, hr, hck, hx6, hx4, hb⟩ := hrel
    obtain ⟨Ak, ck, rfl, -, -⟩ := hr.out.mk_
    by_cases hlt : k < cs.length
    · have i0 : (k : Int) < (cs.length : Int) := by omega
      have j0 : (0 : Int) ≤ (k : Int) := by omega
      have hlk := hl _ (certT_mem cs k hlt)
      have hpn : parG r cs (k + 1) = (certT cs k).2.1 := rfl
      have hcn := chkK_next hck.out
      have hwg := winL_get cs k
      have hwc := fun x (hx : cchkC (parG r cs k) (certT cs k) = x) (hne : x ≠ 0) => win_chk (r := r) (cs := cs) h14 hlt hck.out hx hne
      obtain ⟨b, o, A1, c1, A2, c2, rfl, hbB, z0, z1, p1, z2, z3, z4, p2⟩ := cert_at (hc0.out.below hb.out) k hlt
      generalize hct : certT cs k = ct at *
      obtain ⟨n, p, f, t, s⟩ := ct
      dsimp only at *
      have hB2 : w.heap.size ≤ wr.heap.size := hb.out.size
      have hchk := crcheck_any _ _ _ _ (parG r cs k) n p s f t wr (hr.out.more hB2) (SeesB.more p1 hB2) (SeesB.more p2 hB2) (Nat.le_refl _) hlk
      unfold CChkP at hchk
      generalize cchkC (parG r cs k) (n, p, f, t, s) = x at *
      generalize parG r cs k = pk at *
      generalize strB n = S0 at *
      have hrow : Hid (∀ W : World, Below wr.heap.size wr W → W.cell? ⟨b, o + k * 5, none⟩ = some (.string S0) ∧ W.cell? ⟨b, o + k * 5 + 1, none⟩ = some (.slice A1 p.length c1) ∧ W.cell? ⟨b, o + k * 5 + 2, none⟩ = some (.int .i64 f) ∧ W.cell? ⟨b, o + k * 5 + 3, none⟩ = some (.int .i64 t) ∧ W.cell? ⟨b, o + k * 5 + 4, none⟩ = some (.slice A2 s.length c2)) := fun W hW =>
       have hbl : b < wr.heap.size := Nat.lt_of_lt_of_le hbB hB2
       ⟨(hW.cell (p := ⟨b, o + k * 5, none⟩) hbl).trans z0, (hW.cell (p := ⟨b, o + k * 5 + 1, none⟩) hbl).trans z1, (hW.cell (p := ⟨b, o + k * 5 + 2, none⟩) hbl).trans z2, (hW.cell (p := ⟨b, o + k * 5 + 3, none⟩) hbl).trans z3, (hW.cell (p := ⟨b, o + k * 5 + 4, none⟩) hbl).trans z4⟩
      replace hchk := Lib.hid hchk
      replace hpn := Lib.hid hpn
      replace hcn := Lib.hid hcn
      replace hwc := Lib.hid hwc
      replace hct := Lib.hid hct
      replace hwg := Lib.hid hwg
      replace p1 := Lib.hid p1
      clear p2
      go_wp2_with fail
      refine hchk.out.mono ?_
      rintro e w9 ⟨rfl, hb0⟩
      have hx69 := Lib.hid (hx6.out.below hb0)
      have hx49 := Lib.hid (hx4.out.below hb0)
      have hb9 := Lib.hid (bgo hb.out hb0)
      have p9 := Lib.hid (SeesB.below p1.out (hb0.mono hB2))
      have hz9 := Lib.hid (Nat.le_trans hB2 hb0.size)
      have hrow9 := hrow.out w9 hb0
      have hrowK : Hid (∀ W : World, Below w9.heap.size w9 W → W.cell? ⟨b, o + k * 5, none⟩ = some (.string S0) ∧ W.cell? ⟨b, o + k * 5 + 1, none⟩ = some (.slice A1 p.length c1) ∧ W.cell? ⟨b, o + k * 5 + 2, none⟩ = some (.int .i64 f) ∧ W.cell? ⟨b, o + k * 5 + 3, none⟩ = some (.int .i64 t) ∧ W.cell? ⟨b, o + k * 5 + 4, none⟩ = some (.slice A2 s.length c2)) := fun W hW => hrow.out W (bgo hb0 hW)
      clear z0 z1 z2 z3 z4 hrow hb0 hchk
      by_cases hx0 : x = 0
      · subst hx0
        cases hm : (metL (winL cs) k).1 with
        | false =>
          have hst := Lib.hid (metL_stop hm 1)
          replace hm := Lib.hid hm
          obtain ⟨-, e1, -, -, -⟩ := hrow9
          dsimp only
          go_wp2_with fail
          go_roundw
          case rel => exact ⟨k + 1, by omega, by go_num, by show _ = _; rw [hst.out, hm.out], by show SeesB _ _ _ _; rw [hpn.out]; exact p9.out, hcn, by show Box _ _ _ _; rw [hst.out]; exact hx69.out, hx49, hb9⟩
          case measure => simp [intOf]; omega
        | true =>
          have hnx := metL_next hm
          rw [hwg.out] at hnx
          dsimp only at hnx
          generalize (metL (winL cs) k).2.1 = a at *
          generalize (metL (winL cs) k).2.2 = b' at *
          replace hnx := Lib.hid hnx
          replace hm := Lib.hid hm
          have K : Hid (∀ W : World, Below w9.heap.size w9 W → W.cell? ⟨g6, 0, none⟩ = some (.int .i64 a) ∧ W.cell? ⟨g6, 1, none⟩ = some (.int .i64 b') ∧ W.cell? ⟨b, o + k * 5, none⟩ = some (.string S0) ∧ W.cell? ⟨b, o + k * 5 + 1, none⟩ = some (.slice A1 p.length c1) ∧ W.cell? ⟨b, o + k * 5 + 2, none⟩ = some (.int .i64 f) ∧ W.cell? ⟨b, o + k * 5 + 3, none⟩ = some (.int .i64 t) ∧ W.cell? ⟨b, o + k * 5 + 4, none⟩ = some (.slice A2 s.length c2)) := fun W hW => ⟨(hx69.out.below hW).cell 0, (hx69.out.below hW).cell 1, hrowK.out W hW⟩
          have hbC := Lib.hid (bdrew w9)
          have hbg6 : b < g6 := Nat.lt_of_lt_of_le hbB hg46.out.1
          clear hrow9
          dsimp only
          go_wp2_with fail
          refine wp_region_J (fun W' : World => W'.cell? ⟨g6, 0, none⟩ = some (.int .i64 a) ∧ W'.cell? ⟨g6, 1, none⟩ = some (.int .i64 b') ∧ W'.cell? ⟨b, o + k * 5, none⟩ = some (.string S0) ∧ W'.cell? ⟨b, o + k * 5 + 1, none⟩ = some (.slice A1 p.length c1) ∧ W'.cell? ⟨b, o + k * 5 + 2, none⟩ = some (.int .i64 f) ∧ W'.cell? ⟨b, o + k * 5 + 3, none⟩ = some (.int .i64 t) ∧ W'.cell? ⟨b, o + k * 5 + 4, none⟩ = some (.slice A2 s.length c2)) 10 (by kernel_rfl) ?_ (fun hHeld => ?_)
          · (try dsimp only); (first | exact K.out _ hbC.out | exact K.out _ (bdrew _))
          refine wpAnyJ_take (i := 0) (v := ?_) rfl (by kernel_rfl) (by kernel_rfl) (by kernel_rfl) (fun _ _ _ h => h) (by rfl) rfl (by kernel_rfl) (by kernel_rfl) (Or.inl ⟨by rfl, ?_⟩) (by assumption) ?_
          rotate_left 1
          · intro w hSw; (try dsimp only at hSw); go_simp <;> (try with_reducible rfl)
          try simp only [Act.put, List.getElem_toArray, List.getElem_cons_succ, List.getElem_cons_zero, List.setIfInBounds_toArray, List.set_cons_zero, List.set_cons_succ]
          refine wpAnyJ_take0 (i := 1) (v := ?_) rfl (by kernel_rfl) (by kernel_rfl) (by kernel_rfl) (fun _ _ _ h => h) (by rfl) (Or.inl ⟨by rfl, ?_⟩) (by assumption) ?_
          rotate_left 1
          · intro w hSw; (try dsimp only at hSw); go_simp <;> (try with_reducible rfl)
          try simp only [Act.put, List.getElem_toArray, List.getElem_cons_succ, List.getElem_cons_zero, List.setIfInBounds_toArray, List.set_cons_zero, List.set_cons_succ]
          refine wpAnyJ_take0 (i := 2) (v := ?_) rfl (by kernel_rfl) (by kernel_rfl) (by kernel_rfl) (fun _ _ _ h => h) (by rfl) (Or.inl ⟨by rfl, ?_⟩) (by assumption) ?_
          rotate_left 1
          · intro w hSw; (try dsimp only at hSw); go_simp <;> (try with_reducible rfl)
          try simp only [Act.put, List.getElem_toArray, List.getElem_cons_succ, List.getElem_cons_zero, List.setIfInBounds_toArray, List.set_cons_zero, List.set_cons_succ]
          refine wpAnyJ_take0 (i := 3) (v := ?_) rfl (by kernel_rfl) (by kernel_rfl) (by kernel_rfl) (fun _ _ _ h => h) (by rfl) (Or.inl ⟨by rfl, ?_⟩) (by assumption) ?_
          rotate_left 1
          · intro w hSw; (try dsimp only at hSw); go_simp <;> (try with_reducible rfl)
          try simp only [Act.put, List.getElem_toArray, List.getElem_cons_succ, List.getElem_cons_zero, List.setIfInBounds_toArray, List.set_cons_zero, List.set_cons_succ]
          refine wpAnyJ_take (i := 4) (v := ?_) rfl (by kernel_rfl) (by kernel_rfl) (by kernel_rfl) (fun _ _ _ h => h) (by rfl) rfl (by kernel_rfl) (by kernel_rfl) (Or.inl ⟨by rfl, ?_⟩) (by assumption) ?_
          rotate_left 1
          · intro w hSw; (try dsimp only at hSw); go_simp <;> (try with_reducible rfl)
          try simp only [Act.put, List.getElem_toArray, List.getElem_cons_succ, List.getElem_cons_zero, List.setIfInBounds_toArray, List.set_cons_zero, List.set_cons_succ]
          refine wpAnyJ_ready (rs := [5]) (by kernel_rfl) (by simp) ?_
          refine AllReadyJ.cons (o := _) rfl (fun Kq hKq => ?_) ?_
          · go_simp
            go_at_call 104
            refine (cwindow_any _ _ _ _ _ _ _ f t _).mono ?_
            rintro e X ⟨rfl, hal⟩
            replace hbC := Lib.hid (bgo hbC.out hal)
            clear hal
            go_wp2_with fail
            refine hKq.out _ _ ?_ (fun hHeld => ?_)
            · intro _; (try dsimp only); (first | exact K.out _ hbC.out | exact K.out _ (bdrew _))
            clear hKq Kq
            try simp only [Act.put, List.getElem_toArray, List.getElem_cons_succ, List.getElem_cons_zero, List.setIfInBounds_toArray, List.set_cons_zero, List.set_cons_succ]
            refine wpAnyJ_ready (rs := [6]) (by kernel_rfl) (by simp) ?_
            refine AllReadyJ.cons (o := _) rfl (fun Kq hKq => ?_) ?_
            · go_simp
              go_at_call 103
              refine (rmeet_any a b' f t _).mono ?_
              rintro e X ⟨rfl, hal⟩
              replace hbC := Lib.hid (bgo hbC.out hal)
              have hx66 := hx69.out.below hbC.out
              obtain ⟨k0, k1, f0, f1⟩ := box2_cells hx66
              replace hx66 := Lib.hid hx66
              generalize hm1 : (meV a b' f t).1 = m1 at *
              generalize hm2 : (meV a b' f t).2 = m2 at *
              generalize hm3 : meB a b' f t = m3 at *
              clear hal
              go_wp2_with fail
              refine hKq.out _ _ ?_ (fun hHeld => ?_)
              · intro _; (try dsimp only); (first | exact K.out _ hbC.out | exact K.out _ (bdrew _))
              clear hKq Kq
              try simp only [Act.put, List.getElem_toArray, List.getElem_cons_succ, List.getElem_cons_zero, List.setIfInBounds_toArray, List.set_cons_zero, List.set_cons_succ]
              refine wpAnyJ_take0 (i := 7) (v := ?_) rfl (by kernel_rfl) (by kernel_rfl) (by kernel_rfl) (fun _ _ _ h => h) (by rfl) (Or.inl ⟨by rfl, ?_⟩) (by assumption) ?_
              rotate_left 1
              · intro w hSw; (try dsimp only at hSw); go_simp <;> (try with_reducible rfl)
              try simp only [Act.put, List.getElem_toArray, List.getElem_cons_succ, List.getElem_cons_zero, List.setIfInBounds_toArray, List.set_cons_zero, List.set_cons_succ]
              refine wpAnyJ_take0 (i := 8) (v := ?_) rfl (by kernel_rfl) (by kernel_rfl) (by kernel_rfl) (fun _ _ _ h => h) (by rfl) (Or.inl ⟨by rfl, ?_⟩) (by assumption) ?_
              rotate_left 1
              · intro w hSw; (try dsimp only at hSw); go_simp <;> (try with_reducible rfl)
              try simp only [Act.put, List.getElem_toArray, List.getElem_cons_succ, List.getElem_cons_zero, List.setIfInBounds_toArray, List.set_cons_zero, List.set_cons_succ]
              refine wpAnyJ_take0 (i := 9) (v := ?_) rfl (by kernel_rfl) (by kernel_rfl) (by kernel_rfl) (fun _ _ _ h => h) (by rfl) (Or.inl ⟨by rfl, ?_⟩) (by assumption) ?_
              rotate_left 1
              · intro w hSw; (try dsimp only at hSw); go_simp <;> (try with_reducible rfl)
              try simp only [Act.put, List.getElem_toArray, List.getElem_cons_succ, List.getElem_cons_zero, List.setIfInBounds_toArray, List.set_cons_zero, List.set_cons_succ]
              refine wpAnyJ_ready (rs := [10]) (by kernel_rfl) (by simp) ?_
              refine AllReadyJ.cons (o := _) rfl (fun Kq hKq => ?_) ?_
              · go_simp
                refine hKq.out _ _ ?_ (fun hHeld => ?_)
                · intro hl; exact absurd hl (by decide)
                clear hKq Kq
                try simp only [Act.put, List.getElem_toArray, List.getElem_cons_succ, List.getElem_cons_zero, List.setIfInBounds_toArray, List.set_cons_zero, List.set_cons_succ]
                refine wpAnyJ_take0 (i := 11) (v := ?_) rfl (by kernel_rfl) (by kernel_rfl) (by kernel_rfl) (fun _ _ _ h => h) (by rfl) (Or.inl ⟨by rfl, ?_⟩) (by assumption) ?_
                rotate_left 1
                · intro w hSw; (try dsimp only at hSw); go_simp <;> (try with_reducible rfl)
                try simp only [Act.put, List.getElem_toArray, List.getElem_cons_succ, List.getElem_cons_zero, List.setIfInBounds_toArray, List.set_cons_zero, List.set_cons_succ]
                refine wpAnyJ_done (by kernel_rfl) ?_ _
                have hx5 := Lib.hid (box_set2 hx66.out (.int .i64 m1) (.int .i64 m2))
                have hb5 := Lib.hid (common_step hb9.out hbC.out hg46.out (.int .i64 m1) (.int .i64 m2) hx49.out)
                have hp5 := Lib.hid (SeesB.below p9.out ((hbC.out.mono hz9.out).trans (below_set2' hg46.out.1 (.int .i64 m1) (.int .i64 m2))))
                have e1 := (K.out _ hbC.out).2.2.2.1
                have e2 := (World.cell?_setCell_other X ⟨g6, 0, none⟩ ⟨b, o + k * 5 + 1, none⟩ (.int .i64 m1) (by intro e; injection e; omega)).trans e1
                have e3 := (World.cell?_setCell_other (X.setCell ⟨g6, 0, none⟩ (.int .i64 m1)) ⟨g6, 1, none⟩ ⟨b, o + k * 5 + 1, none⟩ (.int .i64 m2) (by intro e; injection e; omega)).trans e2
                clear k0 k1 f0 f1 hHeld e1 e2
                go_wp2_with fail
                go_roundw
                case rel => exact ⟨k + 1, by omega, by go_num, by show _ = _; rw [hnx.out], by show SeesB _ _ _ _; rw [hpn.out]; exact hp5.out, hcn, by show Box _ _ _ _; rw [hnx.out]; show Box _ _ _ [.int .i64 (meV a b' f t).1, .int .i64 (meV a b' f t).2]; rw [hm1, hm2]; exact hx5.out, hb5.out.1, hb5.out.2⟩
                case measure => simp [intOf]; omega
              exact AllReadyJ.nil
            exact AllReadyJ.nil
          exact AllReadyJ.nil
      · have hC := hwc.out x rfl hx0
        have hne : Hid (x ≠ 0) := hx0
        replace hC := Lib.hid hC
        obtain ⟨k0, k1, f0, f1⟩ := box2_cells hx49.out
        have hx12 := Lib.hid (box_set2 hx49.out (.int .i64 0) (.int .i64 0))
        have hb12 := Lib.hid (below_set2 (g := g4) hb9.out (Nat.le_of_eq hg4.out.symm) (.int .i64 0) (.int .i64 0))
        clear hrow9
        dsimp only
        go_wp2_with fail
        clear k0 k1 f0 f1
        obtain ⟨k0, k1⟩ := boxT2 hx12.out
        try simp only [Exit.inBlock, Exit.then]
        refine bodyPost_ret (v := .tuple #[.agg #[.int .i64 0, .int .i64 0], .int .i64 x]) (by simp [results, Tryz.results39, go_sem, k0, k1]) rfl ?_
        exact winP_bad hC.out hne.out hb12.out
    · obtain rfl : k = cs.length := by omega
      have i0 : ¬ (cs.length : Int) < (cs.length : Int) := by omega
      cases hm : (metL (winL cs) cs.length).1 with
      | false =>
        have hC := Lib.hid (win_no h14 hck.out hm)
        replace hm := Lib.hid hm
        obtain ⟨k0, k1, f0, f1⟩ := box2_cells hx4.out
        have hx14 := Lib.hid (box_set2 hx4.out (.int .i64 0) (.int .i64 0))
        have hb14 := Lib.hid (below_set2 (g := g4) hb.out (Nat.le_of_eq hg4.out.symm) (.int .i64 0) (.int .i64 0))
        go_wp2_with fail
        clear k0 k1 f0 f1
        obtain ⟨k0, k1⟩ := boxT2 hx14.out
        refine bodyPost_ret (v := .tuple #[.agg #[.int .i64 0, .int .i64 0], .int .i64 25]) (by simp [results, Tryz.results39, go_sem, k0, k1]) rfl ?_
        exact winP_bad hC.out (by omega) hb14.out
      | true =>
        have hC := Lib.hid (win_yes h14 hck.out hm)
        obtain ⟨lo, hi', hlh⟩ : ∃ lo hi', (metL (winL cs) cs.length).2 = (lo, hi') := ⟨_, _, rfl⟩
        rw [hlh] at hx6
        replace hm := Lib.hid hm
        replace hlh := Lib.hid hlh
        obtain ⟨k0, k1, f0, f1⟩ := box2_cells hx4.out
        obtain ⟨y0, y1⟩ := boxT2 hx6.out
        have hx14 := Lib.hid (box_set2 hx4.out (.int .i64 lo) (.int .i64 hi'))
        have hb14 := Lib.hid (below_set2 (g := g4) hb.out (Nat.le_of_eq hg4.out.symm) (.int .i64 lo) (.int .i64 hi'))
        go_wp2_with fail
        clear k0 k1 f0 f1 y0 y1
        obtain ⟨k0, k1⟩ := boxT2 hx14.out
        refine bodyPost_ret (v := .tuple #[.agg #[.int .i64 lo, .int .i64 hi'], .int .i64 0]) (by simp [results, Tryz.results39, go_sem, k0, k1]) rfl ?_
        exact winP_ok hC.out hlh.out hb14.out
 · have hal := balloc w (.cells #[.int .i64 0, .int .i64 0] 24)
   have x4 := Box.new w 24 [.int .i64 0, .int .i64 0]
   change Box (w.alloc (.cells #[.int .i64 0, .int .i64 0] 24)) _ _ _ at x4
   have hC := Lib.hid (win_len (r := r) h14)
   have hdec : ((cs.length : Int) < 1) ∨ (¬ ((cs.length : Int) < 1) ∧ (4 : Int) < (cs.length : Int)) := by omega
   obtain ⟨k0, k1, f0, f1⟩ := box2_cells x4
   have hx7 := Lib.hid (box_set2 x4 (.int .i64 0) (.int .i64 0))
   have hb7 := Lib.hid (below_set2 (g := w.heap.size) hal (Nat.le_refl _) (.int .i64 0) (.int .i64 0))
   replace x4 := Lib.hid x4
   clear h14 hu hu2
   rcases hdec with i1 | ⟨i1, i2⟩
   all_goals
    go_enter Tryz.func39, Tryz.ntmps39
    go_upto_region 1 with (fail)
    generalize w.alloc (.cells #[.int .i64 0, .int .i64 0] 24) = W0 at *
    go_wp2_with fail
    clear k0 k1 f0 f1
    obtain ⟨k0, k1⟩ := boxT2 hx7.out
    refine bodyPost_ret (v := .tuple #[.agg #[.int .i64 0, .int .i64 0], .int .i64 8]) (by simp [results, Tryz.results39, go_sem, k0, k1]) rfl ?_
    exact winP_bad hC.out (by omega) hb7.out
end Go.Proofs.YtjgepckncogdaaaGreat

/- Contract of sectimeref30.Grant. Conditions: the seed and the key are seen, at most 65000 bytes of the key. -/
import Derived.Test.YtkefbjpdpcmpnaaGreatGrant
namespace Go.Proofs.YtkefbjpdpcmpnaaGreat
open Go Go.RowKit
set_option linter.unusedVariables false
set_option linter.unusedSimpArgs false
attribute [local go_sem ↓] Go.wp_at_zero Go.wp_at_succ
theorem three_drew {W : World} {g : Nat} {x0 x1 x2 : Value} (h : W.cell? ⟨g, 0, none⟩ = some x0 ∧ W.cell? ⟨g, 1, none⟩ = some x1 ∧ W.cell? ⟨g, 2, none⟩ = some x2) : W.drew.cell? ⟨g, 0, none⟩ = some x0 ∧ W.drew.cell? ⟨g, 1, none⟩ = some x1 ∧ W.drew.cell? ⟨g, 2, none⟩ = some x2 := h
theorem rgrant_ok {r : (Bs × Int × Int) × (Bs × Int × Int × Bs) × Int} {rs p rg : Bs} {rh rn f t : Int} (h : r = ((rs, rh, rn), (p, f, t, rg), 0)) {w W : World} {v1 v2 v3 : Value} (t1 : SeesB W W.heap.size v1 rs) (t2 : SeesB W W.heap.size v2 p) (t3 : SeesB W W.heap.size v3 rg) (hb : Below w.heap.size w W) : GrantP r w (.returned (.tuple #[.agg #[v1, .int .i64 rh, .int .i64 rn], .agg #[v2, .int .i64 f, .int .i64 t, v3], .int .i64 0])) W := by
  subst h
  exact ⟨_, _, _, rfl, t1, t2, t3, hb⟩
set_option maxRecDepth 100000 in
set_option maxHeartbeats 8000000 in
theorem rgrant_any (B : Nat) (u u2 : Value) (sd p : Bs) (h n f t : Int) (w : World) (hu : SeesB w B u sd) (hu2 : SeesB w B u2 p) (hB : B ≤ w.heap.size) (hp : p.length ≤ 65000) :
    Calls Tryz.prog 82 #[.agg #[u, .int .i64 h, .int .i64 n], u2, .int .i64 f, .int .i64 t] w (GrantP (grantR sd h n p f t) w) := by
  obtain ⟨As, cs, rfl, -, -⟩ := hu.mk_
  obtain ⟨Ap, cp, rfl, -, -⟩ := hu2.mk_
  have b1 := balloc w (.cells #[.slice As sd.length cs, .int .i64 h, .int .i64 n] 39)
  have b2 := bgo b1 (balloc _ (.cells #[.slice none 0 0, .int .i64 0, .int .i64 0] 39))
  have b3 := bgo b2 (balloc _ (.cells #[.slice none 0 0, .int .i64 0, .int .i64 0, .slice none 0 0] 37))
  have x4 := ((Box.new w 39 [.slice As sd.length cs, .int .i64 h, .int .i64 n]).below (balloc _ (.cells #[.slice none 0 0, .int .i64 0, .int .i64 0] 39))).below (balloc _ (.cells #[.slice none 0 0, .int .i64 0, .int .i64 0, .slice none 0 0] 37))
  have h8 := (Box.new (w.alloc (.cells #[.slice As sd.length cs, .int .i64 h, .int .i64 n] 39)) 39 [.slice none 0 0, .int .i64 0, .int .i64 0]).below (balloc _ (.cells #[.slice none 0 0, .int .i64 0, .int .i64 0, .slice none 0 0] 37))
  have h9 := Box.new ((w.alloc (.cells #[.slice As sd.length cs, .int .i64 h, .int .i64 n] 39)).alloc (.cells #[.slice none 0 0, .int .i64 0, .int .i64 0] 39)) 37 [.slice none 0 0, .int .i64 0, .int .i64 0, .slice none 0 0]
  rw [World.size_alloc] at h8
  rw [World.size_alloc, World.size_alloc] at h9
  have ss5 := seesB_of hu hB b3
  have sc5 := seesB_of hu2 hB b3
  have hg8 : w.heap.size ≤ w.heap.size + 1 := by omega
  have hg9 : w.heap.size ≤ w.heap.size + 1 + 1 := by omega
  have hne : w.heap.size + 1 ≠ w.heap.size + 1 + 1 := by omega
  replace hg8 := Lib.hid hg8
  replace hg9 := Lib.hid hg9
  replace hne := Lib.hid hne
  clear hu hu2 b1 b2
  go_enter Tryz.func82, Tryz.ntmps82
  go_upto_region 1 with (fail)
  change Box (((w.alloc (.cells #[.slice As sd.length cs, .int .i64 h, .int .i64 n] 39)).alloc (.cells #[.slice none 0 0, .int .i64 0, .int .i64 0] 39)).alloc (.cells #[.slice none 0 0, .int .i64 0, .int .i64 0, .slice none 0 0] 37)) _ _ _ at x4 h8 h9
  generalize ((w.alloc (.cells #[.slice As sd.length cs, .int .i64 h, .int .i64 n] 39)).alloc (.cells #[.slice none 0 0, .int .i64 0, .int .i64 0] 39)).alloc (.cells #[.slice none 0 0, .int .i64 0, .int .i64 0, .slice none 0 0] 37) = W5 at *
  have hbw := Lib.hid b3
  clear b3
  generalize hG9 : w.heap.size + 1 + 1 = g9 at *
  generalize hG8 : w.heap.size + 1 = g8 at *
  generalize hG4 : w.heap.size = g4 at x4 ⊢
  replace hG9 := Lib.hid hG9
  replace hG8 := Lib.hid hG8
  replace hG4 := Lib.hid hG4
  have hva := Lib.hid (rsvalid_any _ (.slice As sd.length cs) sd h n W5 ss5)
  have c0 := x4.cell 0
  have c1 := x4.cell 1
  have c2 := x4.cell 2
  simp only [List.getElem?_cons_zero, List.getElem?_cons_succ] at c0 c1 c2
  cases hV : validI sd h n with
  | false =>
    rw [hV] at hva
    have hr : Hid (grantR sd h n p f t = (([], 0, 0), ([], 0, 0, []), 3)) := by show _ = _; rw [grantR, hV]; rfl
    replace hV := Lib.hid hV
    clear ss5 sc5
    replace h8 := Lib.hid h8
    replace h9 := Lib.hid h9
    go_wp2_with fail
    refine hva.out.mono ?_
    rintro e w6 ⟨rfl, hb6⟩
    replace h8 := h8.out.below hb6
    replace h9 := h9.out.below hb6
    replace hbw := Lib.hid (bgo hbw.out hb6)
    clear c0 c1 c2 x4 hva
    dsimp only
    have y0 := h8.cell 0
    have y1 := h8.cell 1
    have y2 := h8.cell 2
    have y3 := (box_off3 h9 hne.out (.slice none 0 0) (.int .i64 0) (.int .i64 0)).cell 0
    have y4 := (box_off3 h9 hne.out (.slice none 0 0) (.int .i64 0) (.int .i64 0)).cell 1
    have y5 := (box_off3 h9 hne.out (.slice none 0 0) (.int .i64 0) (.int .i64 0)).cell 2
    have y6 := (box_off3 h9 hne.out (.slice none 0 0) (.int .i64 0) (.int .i64 0)).cell 3
    simp only [List.getElem?_cons_zero, List.getElem?_cons_succ] at y0 y1 y2 y3 y4 y5 y6
    have f0 := h8.frozen 0
    have f1 := h8.frozen 1
    have f2 := h8.frozen 2
    have f3 := (box_off3 h9 hne.out (.slice none 0 0) (.int .i64 0) (.int .i64 0)).frozen 0
    have f4 := (box_off3 h9 hne.out (.slice none 0 0) (.int .i64 0) (.int .i64 0)).frozen 1
    have f5 := (box_off3 h9 hne.out (.slice none 0 0) (.int .i64 0) (.int .i64 0)).frozen 2
    have f6 := (box_off3 h9 hne.out (.slice none 0 0) (.int .i64 0) (.int .i64 0)).frozen 3
    go_wp2_with fail
    obtain ⟨k8, k9, kb⟩ := set34 h8 h9 (hne.out) (.slice none 0 0) (.int .i64 0) (.int .i64 0) (.slice none 0 0) (.int .i64 0) (.int .i64 0) (.slice none 0 0)
    replace kb := Lib.hid (kb w hbw.out hg8.out hg9.out)
    clear y0 y1 y2 y3 y4 y5 y6 f0 f1 f2 f3 f4 f5 f6 h8 h9
    generalize ((((((w6.setCell ⟨g8, 0, none⟩ (.slice none 0 0)).setCell ⟨g8, 1, none⟩ (.int .i64 0)).setCell ⟨g8, 2, none⟩ (.int .i64 0)).setCell ⟨g9, 0, none⟩ (.slice none 0 0)).setCell ⟨g9, 1, none⟩ (.int .i64 0)).setCell ⟨g9, 2, none⟩ (.int .i64 0)).setCell ⟨g9, 3, none⟩ (.slice none 0 0) = W9 at *
    have z0 : W9.cell? ⟨g8, 0, none⟩ = some (.slice none 0 0) := k8.cell 0
    have z1 : W9.cell? ⟨g8, 1, none⟩ = some (.int .i64 0) := k8.cell 1
    have z2 : W9.cell? ⟨g8, 2, none⟩ = some (.int .i64 0) := k8.cell 2
    have z3 : W9.cell? ⟨g9, 0, none⟩ = some (.slice none 0 0) := k9.cell 0
    have z4 : W9.cell? ⟨g9, 1, none⟩ = some (.int .i64 0) := k9.cell 1
    have z5 : W9.cell? ⟨g9, 2, none⟩ = some (.int .i64 0) := k9.cell 2
    have z6 : W9.cell? ⟨g9, 3, none⟩ = some (.slice none 0 0) := k9.cell 3
    refine bodyPost_ret (v := .tuple #[.agg #[.slice none 0 0, .int .i64 0, .int .i64 0], .agg #[.slice none 0 0, .int .i64 0, .int .i64 0, .slice none 0 0], .int .i64 3]) (by simp [results, Tryz.results82, go_sem, z0, z1, z2, z3, z4, z5, z6]) rfl ?_
    exact grant_bad hr.out kb.out
  | true =>
    rw [hV] at hva
    replace h8 := Lib.hid h8
    replace h9 := Lib.hid h9
    replace ss5 := Lib.hid ss5
    replace sc5 := Lib.hid sc5
    go_wp2_with fail
    refine hva.out.mono ?_
    rintro e w6 ⟨rfl, hb6⟩
    replace h8 := Lib.hid (h8.out.below hb6)
    replace h9 := Lib.hid (h9.out.below hb6)
    replace x4 := x4.below hb6
    replace ss5 := Lib.hid (seesB_of ss5.out (Nat.le_refl _) hb6)
    replace sc5 := Lib.hid (seesB_of sc5.out (Nat.le_refl _) hb6)
    replace hbw := Lib.hid (bgo hbw.out hb6)
    clear c0 c1 c2 hva hb6
    dsimp only
    by_cases hp32 : p.length = 32
    · have ip : ((p.length : Int) != 32) = false := by simp; omega
      replace hp32 := Lib.hid hp32
      have hvl := Lib.hid (fun W => rvalid_any f t W)
      go_wp2_with fail
      refine (hvl.out _).mono ?_
      rintro e w8 ⟨rfl, hb68⟩
      replace h8 := Lib.hid (h8.out.below hb68)
      replace h9 := Lib.hid (h9.out.below hb68)
      replace x4 := x4.below hb68
      replace ss5 := Lib.hid (seesB_of ss5.out (Nat.le_refl _) hb68)
      replace sc5 := Lib.hid (seesB_of sc5.out (Nat.le_refl _) hb68)
      replace hbw := Lib.hid (bgo hbw.out hb68)
      clear hvl hb68
      dsimp only
      cases hv : vS f t with
      | false =>
        have hr : Hid (grantR sd h n p f t = (([], 0, 0), ([], 0, 0, []), 3)) := by show _ = _; rw [grantR, if_pos hV, if_pos hp32.out, hv]; rfl
        replace hV := Lib.hid hV
        replace hv := Lib.hid hv
        replace h8 := h8.out
        replace h9 := h9.out
        clear x4 ss5 sc5
        have y0 := h8.cell 0
        have y1 := h8.cell 1
        have y2 := h8.cell 2
        have y3 := (box_off3 h9 hne.out (.slice none 0 0) (.int .i64 0) (.int .i64 0)).cell 0
        have y4 := (box_off3 h9 hne.out (.slice none 0 0) (.int .i64 0) (.int .i64 0)).cell 1
        have y5 := (box_off3 h9 hne.out (.slice none 0 0) (.int .i64 0) (.int .i64 0)).cell 2
        have y6 := (box_off3 h9 hne.out (.slice none 0 0) (.int .i64 0) (.int .i64 0)).cell 3
        simp only [List.getElem?_cons_zero, List.getElem?_cons_succ] at y0 y1 y2 y3 y4 y5 y6
        have f0 := h8.frozen 0
        have f1 := h8.frozen 1
        have f2 := h8.frozen 2
        have f3 := (box_off3 h9 hne.out (.slice none 0 0) (.int .i64 0) (.int .i64 0)).frozen 0
        have f4 := (box_off3 h9 hne.out (.slice none 0 0) (.int .i64 0) (.int .i64 0)).frozen 1
        have f5 := (box_off3 h9 hne.out (.slice none 0 0) (.int .i64 0) (.int .i64 0)).frozen 2
        have f6 := (box_off3 h9 hne.out (.slice none 0 0) (.int .i64 0) (.int .i64 0)).frozen 3
        go_wp2_with fail
        obtain ⟨k8, k9, kb⟩ := set34 h8 h9 (hne.out) (.slice none 0 0) (.int .i64 0) (.int .i64 0) (.slice none 0 0) (.int .i64 0) (.int .i64 0) (.slice none 0 0)
        replace kb := Lib.hid (kb w hbw.out hg8.out hg9.out)
        clear y0 y1 y2 y3 y4 y5 y6 f0 f1 f2 f3 f4 f5 f6 h8 h9
        generalize ((((((w8.setCell ⟨g8, 0, none⟩ (.slice none 0 0)).setCell ⟨g8, 1, none⟩ (.int .i64 0)).setCell ⟨g8, 2, none⟩ (.int .i64 0)).setCell ⟨g9, 0, none⟩ (.slice none 0 0)).setCell ⟨g9, 1, none⟩ (.int .i64 0)).setCell ⟨g9, 2, none⟩ (.int .i64 0)).setCell ⟨g9, 3, none⟩ (.slice none 0 0) = W9 at *
        have z0 : W9.cell? ⟨g8, 0, none⟩ = some (.slice none 0 0) := k8.cell 0
        have z1 : W9.cell? ⟨g8, 1, none⟩ = some (.int .i64 0) := k8.cell 1
        have z2 : W9.cell? ⟨g8, 2, none⟩ = some (.int .i64 0) := k8.cell 2
        have z3 : W9.cell? ⟨g9, 0, none⟩ = some (.slice none 0 0) := k9.cell 0
        have z4 : W9.cell? ⟨g9, 1, none⟩ = some (.int .i64 0) := k9.cell 1
        have z5 : W9.cell? ⟨g9, 2, none⟩ = some (.int .i64 0) := k9.cell 2
        have z6 : W9.cell? ⟨g9, 3, none⟩ = some (.slice none 0 0) := k9.cell 3
        refine bodyPost_ret (v := .tuple #[.agg #[.slice none 0 0, .int .i64 0, .int .i64 0], .agg #[.slice none 0 0, .int .i64 0, .int .i64 0, .slice none 0 0], .int .i64 3]) (by simp [results, Tryz.results82, go_sem, z0, z1, z2, z3, z4, z5, z6]) rfl ?_
        exact grant_bad hr.out kb.out
      | true =>
        have hr : Hid (grantR sd h n p f t = if (signAll sd h n (tGrant ++ p ++ spanB f t)).2.2.2.2 = 0 then
          (((signAll sd h n (tGrant ++ p ++ spanB f t)).1, (signAll sd h n (tGrant ++ p ++ spanB f t)).2.1, (signAll sd h n (tGrant ++ p ++ spanB f t)).2.2.1), (p, f, t, (signAll sd h n (tGrant ++ p ++ spanB f t)).2.2.2.1), 0)
          else (([], 0, 0), ([], 0, 0, []), (signAll sd h n (tGrant ++ p ++ spanB f t)).2.2.2.2)) := by show _ = _; rw [grantR, if_pos hV, if_pos hp32.out, if_pos hv]
        have hsg := fun (W : World) (hW : Below w8.heap.size w8 W) => rtext_any W.heap.size (.slice Ap p.length cp) p f t W (seesB_of sc5.out (Nat.le_refl _) hW) (Nat.le_refl _) (by omega)
        have hm : (tGrant ++ p ++ spanB f t).length ≤ 65535 := by rw [List.length_append, List.length_append]; have := hp32.out; simp [tGrant, spanB, putB_len]; omega
        have hsn := fun (W : World) (v : Value) (hW : Below w8.heap.size w8 W) (hv : SeesB W W.heap.size v (tGrant ++ p ++ spanB f t)) => rsign_all W.heap.size (.slice As sd.length cs) v sd (tGrant ++ p ++ spanB f t) h n W (seesB_of ss5.out (Nat.le_refl _) hW) hv (Nat.le_refl _) hm
        generalize tGrant ++ p ++ spanB f t = M at *
        generalize hsa : signAll sd h n M = r at *
        replace hsa := Lib.hid hsa
        replace hm := Lib.hid hm
        obtain ⟨rs, rh, rn, rg, rc⟩ := r
        dsimp only at hr
        unfold SignPost at hsn
        dsimp only at hsn
        have hs1 := Lib.hid (hsg w8.drew (bdrew w8))
        have hs2 := Lib.hid (hsg (w8.alloc (.cells #[.slice none 0 0, .int .i64 0, .int .i64 0] 39)).drew (bgo (balloc w8 _) (bdrew _)))
        clear hsg
        replace hsn := Lib.hid hsn
        have K : Hid (∀ W : World, Below w8.heap.size w8 W → W.cell? ⟨g4, 0, none⟩ = some (.slice As sd.length cs) ∧ W.cell? ⟨g4, 1, none⟩ = some (.int .i64 h) ∧ W.cell? ⟨g4, 2, none⟩ = some (.int .i64 n)) := fun W hW => ⟨(x4.below hW).cell 0, (x4.below hW).cell 1, (x4.below hW).cell 2⟩
        obtain ⟨c0, c1, c2⟩ := K.out w8 (Below.refl _ _)
        replace hV := Lib.hid hV
        replace hv := Lib.hid hv
        clear ip
        go_wp2_with fail
        go_cut [11, 12, 13] (fun v12 v13 v14 W => SgnR w8 rs rh rn rg rc v12 v13 v14 W)
        case first =>
          go_region_held3 (fun W' : World => W'.cell? ⟨g4, 0, none⟩ = some (.slice As sd.length cs) ∧ W'.cell? ⟨g4, 1, none⟩ = some (.int .i64 h) ∧ W'.cell? ⟨g4, 2, none⟩ = some (.int .i64 n))
            (first | (with_reducible exact K.out _ hb10) | (with_reducible exact K.out _ (below_set3 hb10 hz9 _ _ _)) | (with_reducible exact K.out _ hb9) | exact K.out _ (by (repeat (first | exact Below.refl _ _ | (refine bgo ?_ (balloc _ _)) | (refine bgo ?_ (bdrew _)) | (refine bgo ?_ (by assumption))))) | (go_keep; done))
            (first
              | (go_at_call 110; (with_reducible refine (hsn.out (w9.alloc (.cells #[.slice none 0 0, .int .i64 0, .int .i64 0] 39)) _ (bgo hb9 (balloc w9 _)) (seesB_of s9 (Nat.le_refl _) (balloc w9 _))).mono ?_); rintro e w10 ⟨v1, v2, rfl, t1, t2, hb10⟩
                 obtain ⟨A1, k1, rfl, -, -⟩ := t1.mk_
                 obtain ⟨A2, k2, rfl, -, -⟩ := t2.mk_
                 have bz := (Box.new w9 39 [.slice none 0 0, .int .i64 0, .int .i64 0]).below hb10
                 replace hb10 := bgo (bgo hb9 (balloc w9 _)) hb10
                 have hz9 := hb9.size
                 obtain ⟨e0, e1, e2, j0, j1, j2⟩ := box3_cells bz)
              | (go_at_call 110; have _q := bz9; (with_reducible refine (hsn.out w9 _ hb9 s9).mono ?_); rintro e w10 ⟨v1, v2, rfl, t1, t2, hb10⟩
                 obtain ⟨A1, k1, rfl, -, -⟩ := t1.mk_
                 obtain ⟨A2, k2, rfl, -, -⟩ := t2.mk_
                 have bz := bz9.below hb10
                 replace hb10 := bgo hb9 hb10
                 have hz9 := Nat.le_refl w8.heap.size
                 obtain ⟨e0, e1, e2, j0, j1, j2⟩ := box3_cells bz)
              | (go_at_call 110; (with_reducible refine (hsn.out w9 _ hb9 s9).mono ?_); rintro e w10 ⟨v1, v2, rfl, t1, t2, hb10⟩
                 obtain ⟨A1, k1, rfl, -, -⟩ := t1.mk_
                 obtain ⟨A2, k2, rfl, -, -⟩ := t2.mk_
                 replace hb10 := bgo hb9 hb10)
              | (go_at_call 152; (with_reducible refine hs1.out.mono ?_); rintro e w9 ⟨v9, rfl, f9, hb9⟩
                 replace hb9 := bgo (bdrew w8) hb9
                 have s9 := f9.sees
                 obtain ⟨A9, k9, rfl, -, -⟩ := f9.sees.mk_)
              | (go_at_call 152; (with_reducible refine hs2.out.mono ?_); rintro e w9 ⟨v9, rfl, f9, hb9⟩
                 have bz9 := ((Box.new w8 39 [.slice none 0 0, .int .i64 0, .int .i64 0]).below (bdrew _)).below hb9
                 replace hb9 := bgo (bgo (balloc w8 _) (bdrew _)) hb9
                 have s9 := f9.sees
                 obtain ⟨A9, k9, rfl, -, -⟩ := f9.sees.mk_))
          all_goals
            go_wp2_with fail
            go_meet
            first
              | (with_reducible exact sgn_new w8 w10 _ _ _ _ _ _ _ _ _ t1 t2 hb10)
              | (with_reducible exact sgn_set w8 w10 _ _ _ _ _ _ _ _ _ _ bz t1 t2 hz9 hb10)
        case rest =>
          obtain ⟨g12, A1, k1, A2, k2, rfl, rfl, rfl, b12, t1, t2, hg12, hb12⟩ := hcut
          obtain ⟨w10, rfl⟩ : ∃ w10 : World, w10 = wc := ⟨_, rfl⟩
          have q8 : g8 < w8.heap.size := h8.out.lt
          have q9 : g9 < w8.heap.size := h9.out.lt
          replace h8 := h8.out.below hb12
          replace h9 := h9.out.below hb12
          replace sc5 := seesB_of sc5.out (Nat.le_refl _) hb12
          replace hbw := Lib.hid (bgo hbw.out hb12)
          have n4 : g12 ≠ g8 := by omega
          have n5 : g12 ≠ g9 := by omega
          replace n4 := Lib.hid n4
          replace n5 := Lib.hid n5
          clear c0 c1 c2 K hs1 hs2 hsn x4 ss5 q8 q9
          by_cases hE : rc = 0
          · subst hE
            have hr2 : Hid (grantR sd h n p f t = ((rs, rh, rn), (p, f, t, rg), 0)) := by show _ = _; rw [hr.out, if_pos rfl]
            have hal := bgo (balloc w10 (.cells #[.slice Ap p.length cp] 23)) (bdrew _)
            have hj : Calls Tryz.prog 65 #[.slice (some ⟨w10.heap.size, 0, none⟩) 1 1] (w10.alloc (.cells #[.slice Ap p.length cp] 23)).drew fun e w' => ∃ v, e = .returned v ∧ OwnB w' w10.heap.size v [p].flatten ∧ Below w10.heap.size w10 w' :=
              rjoin_lit (vs := [.slice Ap p.length cp]) [p] w10 w10.drew w10.heap.size rfl (bdrew w10) ⟨seesB_of sc5 (Nat.le_refl _) (bdrew w10), trivial⟩ (by simp) (by simp; omega)
            rw [show [p].flatten = p by simp] at hj
            replace hj := Lib.hid hj
            have K : Hid (∀ W : World, Below w10.heap.size w10 W → W.cell? ⟨g12, 0, none⟩ = some (.slice A1 rs.length k1) ∧ W.cell? ⟨g12, 1, none⟩ = some (.int .i64 rh) ∧ W.cell? ⟨g12, 2, none⟩ = some (.int .i64 rn)) := fun W hW => ⟨(b12.below hW).cell 0, (b12.below hW).cell 1, (b12.below hW).cell 2⟩
            obtain ⟨c0, c1, c2⟩ := K.out w10 (Below.refl _ _)
            replace h8 := Lib.hid h8
            replace h9 := Lib.hid h9
            replace b12 := Lib.hid b12
            replace t1 := Lib.hid t1
            replace t2 := Lib.hid t2
            clear sc5 hr hal
            go_wp2_with fail
            go_region_held3 (fun W' : World => W'.cell? ⟨g12, 0, none⟩ = some (.slice A1 rs.length k1) ∧ W'.cell? ⟨g12, 1, none⟩ = some (.int .i64 rh) ∧ W'.cell? ⟨g12, 2, none⟩ = some (.int .i64 rn))
              (first | (with_reducible exact KAB.out) | (with_reducible exact KA.out) | (with_reducible exact K0.out) | exact K.out _ (by (repeat (first | exact Below.refl _ _ | (refine bgo ?_ (balloc _ _)) | (refine bgo ?_ (bdrew _)) | (refine bgo ?_ (by assumption))))))
              (first
                | (go_at_call 65; (with_reducible refine hj.out.mono ?_); rintro e w11 ⟨vc, rfl, fc, hb11⟩
                   have tc := fc.sees
                   obtain ⟨Ac, cc, rfl, -, -⟩ := fc.sees.mk_
                   have K0 := Lib.hid (K.out w11 hb11)
                   have i8 := Lib.hid (h8.out.below hb11)
                   have i9 := Lib.hid (h9.out.below hb11)
                   have i12 := Lib.hid (b12.out.below hb11)
                   have t1' := seesB_of t1.out (Nat.le_refl _) hb11
                   have t2' := seesB_of t2.out (Nat.le_refl _) hb11
                   obtain ⟨p8, p9, pb⟩ := set34 i8.out i9.out hne.out (.slice A1 rs.length k1) (.int .i64 rh) (.int .i64 rn) (.slice Ac p.length cc) (.int .i64 f) (.int .i64 t) (.slice A2 rg.length k2)
                   have n8 := noBL3' (NoB.s none 0 0) (NoB.i 0) (NoB.i 0)
                   have n9 := noBL4 (NoB.s none 0 0) (NoB.i 0) (NoB.i 0) (NoB.s none 0 0)
                   have pt1 := Lib.hid (sees34 i8.out i9.out n8 n9 hne.out (.slice A1 rs.length k1) (.int .i64 rh) (.int .i64 rn) (.slice Ac p.length cc) (.int .i64 f) (.int .i64 t) (.slice A2 rg.length k2) t1')
                   have pt2 := Lib.hid (sees34 i8.out i9.out n8 n9 hne.out (.slice A1 rs.length k1) (.int .i64 rh) (.int .i64 rn) (.slice Ac p.length cc) (.int .i64 f) (.int .i64 t) (.slice A2 rg.length k2) t2')
                   have pt3 := Lib.hid (sees34 i8.out i9.out n8 n9 hne.out (.slice A1 rs.length k1) (.int .i64 rh) (.int .i64 rn) (.slice Ac p.length cc) (.int .i64 f) (.int .i64 t) (.slice A2 rg.length k2) tc)
                   replace pb := Lib.hid (pb w (bgo hbw.out hb11) hg8.out hg9.out)
                   have a12 : Box (((w11.setCell ⟨g8, 0, none⟩ (.slice A1 rs.length k1)).setCell ⟨g8, 1, none⟩ (.int .i64 rh)).setCell ⟨g8, 2, none⟩ (.int .i64 rn)) g12 39 [.slice A1 rs.length k1, .int .i64 rh, .int .i64 rn] := ((i12.out.other n4.out).other n4.out).other n4.out
                   have a9 : Box (((w11.setCell ⟨g8, 0, none⟩ (.slice A1 rs.length k1)).setCell ⟨g8, 1, none⟩ (.int .i64 rh)).setCell ⟨g8, 2, none⟩ (.int .i64 rn)) g9 37 [.slice none 0 0, .int .i64 0, .int .i64 0, .slice none 0 0] := box_off3 i9.out hne.out (.slice A1 rs.length k1) (.int .i64 rh) (.int .i64 rn)
                   have ab12 : Box (((((((w11.setCell ⟨g8, 0, none⟩ (.slice A1 rs.length k1)).setCell ⟨g8, 1, none⟩ (.int .i64 rh)).setCell ⟨g8, 2, none⟩ (.int .i64 rn)).setCell ⟨g9, 0, none⟩ (.slice Ac p.length cc)).setCell ⟨g9, 1, none⟩ (.int .i64 f)).setCell ⟨g9, 2, none⟩ (.int .i64 t)).setCell ⟨g9, 3, none⟩ (.slice A2 rg.length k2)) g12 39 [.slice A1 rs.length k1, .int .i64 rh, .int .i64 rn] := (((a12.other n5.out).other n5.out).other n5.out).other n5.out
                   have KA : Hid ((((w11.setCell ⟨g8, 0, none⟩ (.slice A1 rs.length k1)).setCell ⟨g8, 1, none⟩ (.int .i64 rh)).setCell ⟨g8, 2, none⟩ (.int .i64 rn)).cell? ⟨g12, 0, none⟩ = some (.slice A1 rs.length k1) ∧ (((w11.setCell ⟨g8, 0, none⟩ (.slice A1 rs.length k1)).setCell ⟨g8, 1, none⟩ (.int .i64 rh)).setCell ⟨g8, 2, none⟩ (.int .i64 rn)).cell? ⟨g12, 1, none⟩ = some (.int .i64 rh) ∧ (((w11.setCell ⟨g8, 0, none⟩ (.slice A1 rs.length k1)).setCell ⟨g8, 1, none⟩ (.int .i64 rh)).setCell ⟨g8, 2, none⟩ (.int .i64 rn)).cell? ⟨g12, 2, none⟩ = some (.int .i64 rn)) := ⟨a12.cell 0, a12.cell 1, a12.cell 2⟩
                   have KAB : Hid ((((((((w11.setCell ⟨g8, 0, none⟩ (.slice A1 rs.length k1)).setCell ⟨g8, 1, none⟩ (.int .i64 rh)).setCell ⟨g8, 2, none⟩ (.int .i64 rn)).setCell ⟨g9, 0, none⟩ (.slice Ac p.length cc)).setCell ⟨g9, 1, none⟩ (.int .i64 f)).setCell ⟨g9, 2, none⟩ (.int .i64 t)).setCell ⟨g9, 3, none⟩ (.slice A2 rg.length k2)).cell? ⟨g12, 0, none⟩ = some (.slice A1 rs.length k1) ∧ (((((((w11.setCell ⟨g8, 0, none⟩ (.slice A1 rs.length k1)).setCell ⟨g8, 1, none⟩ (.int .i64 rh)).setCell ⟨g8, 2, none⟩ (.int .i64 rn)).setCell ⟨g9, 0, none⟩ (.slice Ac p.length cc)).setCell ⟨g9, 1, none⟩ (.int .i64 f)).setCell ⟨g9, 2, none⟩ (.int .i64 t)).setCell ⟨g9, 3, none⟩ (.slice A2 rg.length k2)).cell? ⟨g12, 1, none⟩ = some (.int .i64 rh) ∧ (((((((w11.setCell ⟨g8, 0, none⟩ (.slice A1 rs.length k1)).setCell ⟨g8, 1, none⟩ (.int .i64 rh)).setCell ⟨g8, 2, none⟩ (.int .i64 rn)).setCell ⟨g9, 0, none⟩ (.slice Ac p.length cc)).setCell ⟨g9, 1, none⟩ (.int .i64 f)).setCell ⟨g9, 2, none⟩ (.int .i64 t)).setCell ⟨g9, 3, none⟩ (.slice A2 rg.length k2)).cell? ⟨g12, 2, none⟩ = some (.int .i64 rn)) := ⟨ab12.cell 0, ab12.cell 1, ab12.cell 2⟩
                   obtain ⟨o0, o1, o2, o3, o4, o5⟩ := box3_cells i8.out
                   obtain ⟨s6, s7, s8, s9, s10, s11, s12, s13⟩ := box4_cells a9
                   replace p8 := Lib.hid p8
                   replace p9 := Lib.hid p9
                   clear a12 a9 ab12 n8 n9 t1' t2' tc fc))
            all_goals
              clear K0 KA KAB o0 o1 o2 o3 o4 o5 s6 s7 s8 s9 s10 s11 s12 s13 c0 c1 c2
              go_wp2_with fail
              generalize ((((((w11.setCell ⟨g8, 0, none⟩ (.slice A1 rs.length k1)).setCell ⟨g8, 1, none⟩ (.int .i64 rh)).setCell ⟨g8, 2, none⟩ (.int .i64 rn)).setCell ⟨g9, 0, none⟩ (.slice Ac p.length cc)).setCell ⟨g9, 1, none⟩ (.int .i64 f)).setCell ⟨g9, 2, none⟩ (.int .i64 t)).setCell ⟨g9, 3, none⟩ (.slice A2 rg.length k2) = W9 at *
              have z0 := p8.out.cell 0
              have z1 := p8.out.cell 1
              have z2 := p8.out.cell 2
              have z3 := p9.out.cell 0
              have z4 := p9.out.cell 1
              have z5 := p9.out.cell 2
              have z6 := p9.out.cell 3
              simp only [List.getElem?_cons_zero, List.getElem?_cons_succ] at z0 z1 z2 z3 z4 z5 z6
              refine bodyPost_ret (v := .tuple #[.agg #[.slice A1 rs.length k1, .int .i64 rh, .int .i64 rn], .agg #[.slice Ac p.length cc, .int .i64 f, .int .i64 t, .slice A2 rg.length k2], .int .i64 0]) (by simp [results, Tryz.results82, go_sem, z0, z1, z2, z3, z4, z5, z6]) rfl ?_
              exact rgrant_ok hr2.out pt1.out pt3.out pt2.out pb.out
          · have hr2 : Hid (grantR sd h n p f t = (([], 0, 0), ([], 0, 0, []), rc)) := by show _ = _; rw [hr.out, if_neg hE]
            have hEb : (rc == 0) = false := by rw [beq_eq_false_iff_ne]; exact hE
            clear b12 t1 t2 sc5
            have y0 := h8.cell 0
            have y1 := h8.cell 1
            have y2 := h8.cell 2
            have y3 := (box_off3 h9 hne.out (.slice none 0 0) (.int .i64 0) (.int .i64 0)).cell 0
            have y4 := (box_off3 h9 hne.out (.slice none 0 0) (.int .i64 0) (.int .i64 0)).cell 1
            have y5 := (box_off3 h9 hne.out (.slice none 0 0) (.int .i64 0) (.int .i64 0)).cell 2
            have y6 := (box_off3 h9 hne.out (.slice none 0 0) (.int .i64 0) (.int .i64 0)).cell 3
            simp only [List.getElem?_cons_zero, List.getElem?_cons_succ] at y0 y1 y2 y3 y4 y5 y6
            have f0 := h8.frozen 0
            have f1 := h8.frozen 1
            have f2 := h8.frozen 2
            have f3 := (box_off3 h9 hne.out (.slice none 0 0) (.int .i64 0) (.int .i64 0)).frozen 0
            have f4 := (box_off3 h9 hne.out (.slice none 0 0) (.int .i64 0) (.int .i64 0)).frozen 1
            have f5 := (box_off3 h9 hne.out (.slice none 0 0) (.int .i64 0) (.int .i64 0)).frozen 2
            have f6 := (box_off3 h9 hne.out (.slice none 0 0) (.int .i64 0) (.int .i64 0)).frozen 3
            go_wp2_with fail
            obtain ⟨k8, k9, kb⟩ := set34 h8 h9 (hne.out) (.slice none 0 0) (.int .i64 0) (.int .i64 0) (.slice none 0 0) (.int .i64 0) (.int .i64 0) (.slice none 0 0)
            replace kb := Lib.hid (kb w hbw.out hg8.out hg9.out)
            clear y0 y1 y2 y3 y4 y5 y6 f0 f1 f2 f3 f4 f5 f6 h8 h9
            generalize ((((((w10.setCell ⟨g8, 0, none⟩ (.slice none 0 0)).setCell ⟨g8, 1, none⟩ (.int .i64 0)).setCell ⟨g8, 2, none⟩ (.int .i64 0)).setCell ⟨g9, 0, none⟩ (.slice none 0 0)).setCell ⟨g9, 1, none⟩ (.int .i64 0)).setCell ⟨g9, 2, none⟩ (.int .i64 0)).setCell ⟨g9, 3, none⟩ (.slice none 0 0) = W9 at *
            have z0 : W9.cell? ⟨g8, 0, none⟩ = some (.slice none 0 0) := k8.cell 0
            have z1 : W9.cell? ⟨g8, 1, none⟩ = some (.int .i64 0) := k8.cell 1
            have z2 : W9.cell? ⟨g8, 2, none⟩ = some (.int .i64 0) := k8.cell 2
            have z3 : W9.cell? ⟨g9, 0, none⟩ = some (.slice none 0 0) := k9.cell 0
            have z4 : W9.cell? ⟨g9, 1, none⟩ = some (.int .i64 0) := k9.cell 1
            have z5 : W9.cell? ⟨g9, 2, none⟩ = some (.int .i64 0) := k9.cell 2
            have z6 : W9.cell? ⟨g9, 3, none⟩ = some (.slice none 0 0) := k9.cell 3
            refine bodyPost_ret (v := .tuple #[.agg #[.slice none 0 0, .int .i64 0, .int .i64 0], .agg #[.slice none 0 0, .int .i64 0, .int .i64 0, .slice none 0 0], .int .i64 rc]) (by simp [results, Tryz.results82, go_sem, z0, z1, z2, z3, z4, z5, z6]) rfl ?_
            exact grant_bad hr2.out kb.out
    · have ip : ((p.length : Int) != 32) = true := by simp; omega
      have hr : Hid (grantR sd h n p f t = (([], 0, 0), ([], 0, 0, []), 5)) := by show _ = _; rw [grantR, if_pos hV, if_neg hp32]
      replace hV := Lib.hid hV
      replace hp32 := Lib.hid hp32
      replace h8 := h8.out
      replace h9 := h9.out
      clear x4 ss5 sc5
      have y0 := h8.cell 0
      have y1 := h8.cell 1
      have y2 := h8.cell 2
      have y3 := (box_off3 h9 hne.out (.slice none 0 0) (.int .i64 0) (.int .i64 0)).cell 0
      have y4 := (box_off3 h9 hne.out (.slice none 0 0) (.int .i64 0) (.int .i64 0)).cell 1
      have y5 := (box_off3 h9 hne.out (.slice none 0 0) (.int .i64 0) (.int .i64 0)).cell 2
      have y6 := (box_off3 h9 hne.out (.slice none 0 0) (.int .i64 0) (.int .i64 0)).cell 3
      simp only [List.getElem?_cons_zero, List.getElem?_cons_succ] at y0 y1 y2 y3 y4 y5 y6
      have f0 := h8.frozen 0
      have f1 := h8.frozen 1
      have f2 := h8.frozen 2
      have f3 := (box_off3 h9 hne.out (.slice none 0 0) (.int .i64 0) (.int .i64 0)).frozen 0
      have f4 := (box_off3 h9 hne.out (.slice none 0 0) (.int .i64 0) (.int .i64 0)).frozen 1
      have f5 := (box_off3 h9 hne.out (.slice none 0 0) (.int .i64 0) (.int .i64 0)).frozen 2
      have f6 := (box_off3 h9 hne.out (.slice none 0 0) (.int .i64 0) (.int .i64 0)).frozen 3
      go_wp2_with fail
      obtain ⟨k8, k9, kb⟩ := set34 h8 h9 (hne.out) (.slice none 0 0) (.int .i64 0) (.int .i64 0) (.slice none 0 0) (.int .i64 0) (.int .i64 0) (.slice none 0 0)
      replace kb := Lib.hid (kb w hbw.out hg8.out hg9.out)
      clear y0 y1 y2 y3 y4 y5 y6 f0 f1 f2 f3 f4 f5 f6 h8 h9
      generalize ((((((w6.setCell ⟨g8, 0, none⟩ (.slice none 0 0)).setCell ⟨g8, 1, none⟩ (.int .i64 0)).setCell ⟨g8, 2, none⟩ (.int .i64 0)).setCell ⟨g9, 0, none⟩ (.slice none 0 0)).setCell ⟨g9, 1, none⟩ (.int .i64 0)).setCell ⟨g9, 2, none⟩ (.int .i64 0)).setCell ⟨g9, 3, none⟩ (.slice none 0 0) = W9 at *
      have z0 : W9.cell? ⟨g8, 0, none⟩ = some (.slice none 0 0) := k8.cell 0
      have z1 : W9.cell? ⟨g8, 1, none⟩ = some (.int .i64 0) := k8.cell 1
      have z2 : W9.cell? ⟨g8, 2, none⟩ = some (.int .i64 0) := k8.cell 2
      have z3 : W9.cell? ⟨g9, 0, none⟩ = some (.slice none 0 0) := k9.cell 0
      have z4 : W9.cell? ⟨g9, 1, none⟩ = some (.int .i64 0) := k9.cell 1
      have z5 : W9.cell? ⟨g9, 2, none⟩ = some (.int .i64 0) := k9.cell 2
      have z6 : W9.cell? ⟨g9, 3, none⟩ = some (.slice none 0 0) := k9.cell 3
      refine bodyPost_ret (v := .tuple #[.agg #[.slice none 0 0, .int .i64 0, .int .i64 0], .agg #[.slice none 0 0, .int .i64 0, .int .i64 0, .slice none 0 0], .int .i64 5]) (by simp [results, Tryz.results82, go_sem, z0, z1, z2, z3, z4, z5, z6]) rfl ?_
      exact grant_bad hr.out kb.out
end Go.Proofs.YtkefbjpdpcmpnaaGreat

/- Contract of sectimeref31.Copy: a link in new memory. Conditions: the bytes are seen, at most 1048576 bytes each. -/
import Derived.Test.YtcoehlmeegoofaaGreatFC
namespace Go.Proofs.YtcoehlmeegoofaaGreat
open Go Go.RowKit
set_option linter.unusedVariables false
set_option linter.unusedSimpArgs false
attribute [local go_sem ↓] Go.wp_at_zero Go.wp_at_succ
set_option maxRecDepth 100000 in
set_option maxHeartbeats 8000000 in
theorem rlcopy_any (t : LinkG) (v1 v2 v3 : Value) (w : World) (h1 : SeesB w w.heap.size v1 t.1) (h2 : SeesB w w.heap.size v2 t.2.1) (h3 : SeesB w w.heap.size v3 t.2.2) (l1 : t.1.length ≤ 1048576) (l2 : t.2.1.length ≤ 1048576) (l3 : t.2.2.length ≤ 1048576) :
    Calls Tryz.prog 23 #[.agg #[v1, v2, v3]] w (LinkP t w) := by
  obtain ⟨p, b, a⟩ := t
  dsimp only at *
  obtain ⟨A1, c1, rfl, -, -⟩ := h1.mk_
  obtain ⟨A2, c2, rfl, -, -⟩ := h2.mk_
  obtain ⟨A3, c3, rfl, -, -⟩ := h3.mk_
  have hb := bgo (balloc w (.cells #[.slice A1 p.length c1, .slice A2 b.length c2, .slice A3 a.length c3] 41)) (balloc _ (.cells #[.slice none 0 0, .slice none 0 0, .slice none 0 0] 41))
  have x1 := (Box.new w 41 [.slice A1 p.length c1, .slice A2 b.length c2, .slice A3 a.length c3]).below (balloc _ (.cells #[.slice none 0 0, .slice none 0 0, .slice none 0 0] 41))
  have x2 := Box.new (w.alloc (.cells #[.slice A1 p.length c1, .slice A2 b.length c2, .slice A3 a.length c3] 41)) 41 [.slice none 0 0, .slice none 0 0, .slice none 0 0]
  rw [World.size_alloc] at x2
  change Box ((w.alloc (.cells #[.slice A1 p.length c1, .slice A2 b.length c2, .slice A3 a.length c3] 41)).alloc (.cells #[.slice none 0 0, .slice none 0 0, .slice none 0 0] 41)) _ _ _ at x1 x2
  replace h1 := Lib.hid (seesB_of h1 (Nat.le_refl _) hb)
  replace h2 := Lib.hid (seesB_of h2 (Nat.le_refl _) hb)
  replace h3 := Lib.hid (seesB_of h3 (Nat.le_refl _) hb)
  replace l1 := Lib.hid l1
  replace l2 := Lib.hid l2
  replace l3 := Lib.hid l3
  have hs2 := Lib.hid hb.size
  replace hb := Lib.hid hb
  have hg2 : Hid (w.heap.size < w.heap.size + 1) := by show _ < _; omega
  go_enter Tryz.func23, Tryz.ntmps23
  go_upto_region 1 with (fail)
  generalize (w.alloc (.cells #[.slice A1 p.length c1, .slice A2 b.length c2, .slice A3 a.length c3] 41)).alloc (.cells #[.slice none 0 0, .slice none 0 0, .slice none 0 0] 41) = W0 at *
  have hw2 : Hid (w.heap.size ≤ w.heap.size + 1) := by show _ ≤ _; omega
  generalize w.heap.size + 1 = g2 at x2 hg2 hw2 ⊢
  generalize w.heap.size = g1 at x1 hg2 ⊢
  replace x2 := Lib.hid x2
  obtain ⟨k1, k2, k3, -, -, -⟩ := box3_cells x1
  have K : Hid (∀ W, Below W0.heap.size W0 W → W.cell? ⟨g1, 0, none⟩ = some (.slice A1 p.length c1) ∧ W.cell? ⟨g1, 1, none⟩ = some (.slice A2 b.length c2) ∧ W.cell? ⟨g1, 2, none⟩ = some (.slice A3 a.length c3)) := fun W hW => ⟨(x1.below hW).cell 0, (x1.below hW).cell 1, (x1.below hW).cell 2⟩
  have K3 : Hid (∀ W (y0 y1 y2 : Value), Below W0.heap.size W0 W → (((W.setCell ⟨g2, 0, none⟩ y0).setCell ⟨g2, 1, none⟩ y1).setCell ⟨g2, 2, none⟩ y2).cell? ⟨g1, 0, none⟩ = some (.slice A1 p.length c1) ∧ (((W.setCell ⟨g2, 0, none⟩ y0).setCell ⟨g2, 1, none⟩ y1).setCell ⟨g2, 2, none⟩ y2).cell? ⟨g1, 1, none⟩ = some (.slice A2 b.length c2) ∧ (((W.setCell ⟨g2, 0, none⟩ y0).setCell ⟨g2, 1, none⟩ y1).setCell ⟨g2, 2, none⟩ y2).cell? ⟨g1, 2, none⟩ = some (.slice A3 a.length c3)) := fun W y0 y1 y2 hW => by
    have n1 : g1 ≠ g2 := by have := hg2.out; omega
    have b1 := (((x1.below hW).other (j := 0) (v := y0) n1).other (j := 1) (v := y1) n1).other (j := 2) (v := y2) n1
    exact ⟨b1.cell 0, b1.cell 1, b1.cell 2⟩
  clear x1
  go_region_held3 (fun W' : World => W'.cell? ⟨g1, 0, none⟩ = some (.slice A1 p.length c1) ∧ W'.cell? ⟨g1, 1, none⟩ = some (.slice A2 b.length c2) ∧ W'.cell? ⟨g1, 2, none⟩ = some (.slice A3 a.length c3))
    (first | (with_reducible exact K3.out _ _ _ _ (by (repeat (first | exact Below.refl _ _ | (refine bgo ?_ (balloc _ _)) | (refine bgo ?_ (bdrew _)) | (refine bgo ?_ (by assumption)))))) | (with_reducible exact K.out _ (by (repeat (first | exact Below.refl _ _ | (refine bgo ?_ (balloc _ _)) | (refine bgo ?_ (bdrew _)) | (refine bgo ?_ (by assumption)))))) | (go_keep; done))
    (first
      | (go_at_call 21; have _q := m8; (with_reducible refine (rjone (v := .slice A3 a.length c3) (l := a) (by (repeat (first | exact boxn (by with_reducible rfl) | exact boxn (by simp only [World.size_alloc]; done) | (refine Box.below ?_ (balloc _ _)) | (refine Box.below ?_ (bdrew _)) | (refine Box.below ?_ (by assumption))))) (seesB_of h3.out (Nat.le_refl _) (by (repeat (first | exact Below.refl _ _ | (refine bgo ?_ (balloc _ _)) | (refine bgo ?_ (bdrew _)) | (refine bgo ?_ (by assumption)))))) l3.out).mono ?_); rintro e w9 ⟨v9, rfl, o9, hb9⟩
         obtain ⟨B3, d3, rfl, -, -⟩ := o9.sees.mk_
         have m9 := o9.sees
         have x2r := x2.out.below (show Below W0.heap.size W0 w9 by (repeat (first | exact Below.refl _ _ | (refine bgo ?_ (balloc _ _)) | (refine bgo ?_ (bdrew _)) | (refine bgo ?_ (by assumption)))))
         obtain ⟨y0, y1, y2, f0, f1, f2⟩ := box3_cells x2r)
      | (go_at_call 21; have _q := m7; (with_reducible refine (rjone (v := .slice A2 b.length c2) (l := b) (by (repeat (first | exact boxn (by with_reducible rfl) | exact boxn (by simp only [World.size_alloc]; done) | (refine Box.below ?_ (balloc _ _)) | (refine Box.below ?_ (bdrew _)) | (refine Box.below ?_ (by assumption))))) (seesB_of h2.out (Nat.le_refl _) (by (repeat (first | exact Below.refl _ _ | (refine bgo ?_ (balloc _ _)) | (refine bgo ?_ (bdrew _)) | (refine bgo ?_ (by assumption)))))) l2.out).mono ?_); rintro e w8 ⟨v8, rfl, o8, hb8⟩
         obtain ⟨B2, d2, rfl, -, -⟩ := o8.sees.mk_
         have m8 := o8.sees)
      | (go_at_call 21; (with_reducible refine (rjone (v := .slice A1 p.length c1) (l := p) (by (repeat (first | exact boxn (by with_reducible rfl) | exact boxn (by simp only [World.size_alloc]; done) | (refine Box.below ?_ (balloc _ _)) | (refine Box.below ?_ (bdrew _)) | (refine Box.below ?_ (by assumption))))) (seesB_of h1.out (Nat.le_refl _) (by (repeat (first | exact Below.refl _ _ | (refine bgo ?_ (balloc _ _)) | (refine bgo ?_ (bdrew _)) | (refine bgo ?_ (by assumption)))))) l1.out).mono ?_); rintro e w7 ⟨v7, rfl, o7, hb7⟩
         obtain ⟨B1, d1, rfl, -, -⟩ := o7.sees.mk_
         have m7 := o7.sees))
  all_goals
    go_wp2_with fail
    have kd := Lib.hid (link_done (t := (p, b, a)) x2r hw2.out (seesB_of m7 (Nat.le_refl _) (by (repeat (first | exact Below.refl _ _ | (refine bgo ?_ (balloc _ _)) | (refine bgo ?_ (bdrew _)) | (refine bgo ?_ (by assumption)))))) (seesB_of m8 (Nat.le_refl _) (by (repeat (first | exact Below.refl _ _ | (refine bgo ?_ (balloc _ _)) | (refine bgo ?_ (bdrew _)) | (refine bgo ?_ (by assumption)))))) m9 (o7.from.mono (bgo hb.out (by (repeat (first | exact Below.refl _ _ | (refine bgo ?_ (balloc _ _)) | (refine bgo ?_ (bdrew _)) | (refine bgo ?_ (by assumption)))))).size) (o8.from.mono (bgo hb.out (by (repeat (first | exact Below.refl _ _ | (refine bgo ?_ (balloc _ _)) | (refine bgo ?_ (bdrew _)) | (refine bgo ?_ (by assumption)))))).size) (o9.from.mono (bgo hb.out (by (repeat (first | exact Below.refl _ _ | (refine bgo ?_ (balloc _ _)) | (refine bgo ?_ (bdrew _)) | (refine bgo ?_ (by assumption)))))).size) (bgo hb.out (by (repeat (first | exact Below.refl _ _ | (refine bgo ?_ (balloc _ _)) | (refine bgo ?_ (bdrew _)) | (refine bgo ?_ (by assumption)))))))
    have k := box_lset3 x2r (.slice B1 p.length d1) (.slice B2 b.length d2) (.slice B3 a.length d3)
    clear y0 y1 y2 f0 f1 f2 x2r
    generalize ((w9.setCell ⟨g2, 0, none⟩ (.slice B1 p.length d1)).setCell ⟨g2, 1, none⟩ (.slice B2 b.length d2)).setCell ⟨g2, 2, none⟩ (.slice B3 a.length d3) = W9 at *
    obtain ⟨z0, z1, z2, -, -, -⟩ := box3_cells k
    refine bodyPost_ret (v := .agg #[.slice B1 p.length d1, .slice B2 b.length d2, .slice B3 a.length d3]) (by simp [results, Tryz.results23, go_sem, z0, z1, z2]) rfl ?_
    exact kd.out
end Go.Proofs.YtcoehlmeegoofaaGreat

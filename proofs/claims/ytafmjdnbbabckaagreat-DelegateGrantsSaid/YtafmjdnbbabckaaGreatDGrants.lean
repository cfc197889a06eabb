/- The walk of the statement DelegateGrants: true. No conditions. -/
import Derived.Test.YtafmjdnbbabckaaGreatKSigner
import Derived.Deep.CutBlock
import Derived.Outline
import Derived.BigQuiet
namespace Go.Proofs.YtafmjdnbbabckaaGreat
open Go Go.RowKit
set_option linter.unusedVariables false
set_option linter.unusedSimpArgs false
attribute [local go_sem ↓] Go.wp_at_zero Go.wp_at_succ
/-- What the first switch leaves: two numbers and a key of at most 32 bytes. -/
def SwR (w5 : World) (v2 v3 v18 : Value) (W : World) : Prop :=
  ∃ (A : Option Addr) (c : Nat) (pp : Bs) (f t : Int), v2 = .int .i64 f ∧ v3 = .int .i64 t ∧ v18 = .slice A pp.length c ∧ pp.length ≤ 32 ∧ SeesB W W.heap.size (.slice A pp.length c) pp ∧ Below w5.heap.size w5 W
/-- What the second switch leaves: a key, and the delegation's cells. -/
def SwQ (w : World) (g : Nat) (v16 : Value) (W : World) : Prop :=
  ∃ (A A' A2 : Option Addr) (c c' c2 : Nat) (k p s : Bs) (f t : Int), v16 = .slice A k.length c ∧ Box W g 37 [.slice A' p.length c', .int .i64 f, .int .i64 t, .slice A2 s.length c2] ∧ SeesB W W.heap.size (.slice A k.length c) k ∧ SeesB W W.heap.size (.slice A' p.length c') p ∧ SeesB W W.heap.size (.slice A2 s.length c2) s ∧ s.length ≤ 1048576 ∧ Below w.heap.size w W
theorem sees_put4 {W : World} {g : Nat} {T : TypeId} {A B : Option Addr} {n m c d : Nat} {f t : Int} (bx : Box W g T [.slice A n c, .int .i64 f, .int .i64 t, .slice B m d]) (i : Nat) (x : Value) {v : Value} {l : Bs} (h : SeesB W W.heap.size v l) : SeesB (W.setCell ⟨g, i, none⟩ x) (W.setCell ⟨g, i, none⟩ x).heap.size v l := by
  have hz : (W.setCell ⟨g, i, none⟩ x).heap.size = W.heap.size := by simp [World.setCell]
  rw [hz]
  exact h.over (Nat.le_refl _) bx (noBL4 (NoB.s _ _ _) (NoB.i _) (NoB.i _) (NoB.s _ _ _)) (setCell_grown _ _ _ _)
section
variable {w W : World} {g : Nat} {A A' A2 X : Option Addr} {c c' c2 cx : Nat} {k p s l : Bs} {f t : Int}
theorem swq_id (bx : Box W g 37 [.slice A' p.length c', .int .i64 f, .int .i64 t, .slice A2 s.length c2]) (hk : SeesB W W.heap.size (.slice A k.length c) k) (hp : SeesB W W.heap.size (.slice A' p.length c') p) (hs : SeesB W W.heap.size (.slice A2 s.length c2) s) (hl : s.length ≤ 1048576) (hb : Below w.heap.size w W) : SwQ w g (.slice A k.length c) W :=
  ⟨A, A', A2, c, c', c2, k, p, s, f, t, rfl, bx, hk, hp, hs, hl, hb⟩
theorem swq_2 (x : Int) (bx : Box W g 37 [.slice A' p.length c', .int .i64 f, .int .i64 t, .slice A2 s.length c2]) (hk : SeesB W W.heap.size (.slice A k.length c) k) (hp : SeesB W W.heap.size (.slice A' p.length c') p) (hs : SeesB W W.heap.size (.slice A2 s.length c2) s) (hl : s.length ≤ 1048576) (hg : w.heap.size ≤ g) (hb : Below w.heap.size w W) : SwQ w g (.slice A k.length c) (W.setCell ⟨g, 2, none⟩ (.int .i64 x)) := by
  have b := bx.set 2 (.int .i64 x)
  simp only [List.set_cons_zero, List.set_cons_succ] at b
  exact ⟨A, A', A2, c, c', c2, k, p, s, f, x, rfl, b, sees_put4 bx _ _ hk, sees_put4 bx _ _ hp, sees_put4 bx _ _ hs, hl, hb.setCell (p := ⟨g, 2, none⟩) hg _⟩
theorem swq_0 (bx : Box W g 37 [.slice A' p.length c', .int .i64 f, .int .i64 t, .slice A2 s.length c2]) (hx : SeesB W W.heap.size (.slice X l.length cx) l) (hk : SeesB W W.heap.size (.slice A k.length c) k) (hp : SeesB W W.heap.size (.slice A' p.length c') p) (hs : SeesB W W.heap.size (.slice A2 s.length c2) s) (hl : s.length ≤ 1048576) (hg : w.heap.size ≤ g) (hb : Below w.heap.size w W) : SwQ w g (.slice A k.length c) (W.setCell ⟨g, 0, none⟩ (.slice X l.length cx)) := by
  have b := bx.set 0 (.slice X l.length cx)
  simp only [List.set_cons_zero, List.set_cons_succ] at b
  exact ⟨A, X, A2, c, cx, c2, k, l, s, f, t, rfl, b, sees_put4 bx _ _ hk, sees_put4 bx _ _ hx, sees_put4 bx _ _ hs, hl, hb.setCell (p := ⟨g, 0, none⟩) hg _⟩
theorem swq_3 (bx : Box W g 37 [.slice A' p.length c', .int .i64 f, .int .i64 t, .slice A2 s.length c2]) (hx : SeesB W W.heap.size (.slice X l.length cx) l) (hk : SeesB W W.heap.size (.slice A k.length c) k) (hp : SeesB W W.heap.size (.slice A' p.length c') p) (hl : l.length ≤ 1048576) (hg : w.heap.size ≤ g) (hb : Below w.heap.size w W) : SwQ w g (.slice A k.length c) (W.setCell ⟨g, 3, none⟩ (.slice X l.length cx)) := by
  have b := bx.set 3 (.slice X l.length cx)
  simp only [List.set_cons_zero, List.set_cons_succ] at b
  exact ⟨A, A', X, c, c', cx, k, p, l, f, t, rfl, b, sees_put4 bx _ _ hk, sees_put4 bx _ _ hp, sees_put4 bx _ _ hx, hl, hb.setCell (p := ⟨g, 3, none⟩) hg _⟩
end
theorem grantR_small {sd p rs rp rg : Bs} {h n f t rh rn rf rt rc : Int} (hr : grantR sd h n p f t = ((rs, rh, rn), (rp, rf, rt, rg), rc)) (hp : p.length ≤ 32) : rp.length ≤ 32 ∧ rg.length ≤ 1048576 := by
  unfold grantR at hr
  split at hr
  · rename_i hv
    split at hr
    · split at hr
      · split at hr
        · injection hr with _ h2
          injection h2 with h3 _
          injection h3 with h4 h5
          injection h5 with _ h6
          injection h6 with _ h7
          subst h4
          subst h7
          refine ⟨hp, ?_⟩
          unfold signAll
          rw [if_pos hv]
          split
          · simp
          · dsimp only
            rw [sigG_len]
            unfold validI at hv
            simp only [Bool.and_eq_true, decide_eq_true_eq] at hv
            omega
        all_goals (injection hr with _ h2; injection h2 with h3 _; injection h3 with h4 h5; injection h5 with _ h6; injection h6 with _ h7; subst h4; subst h7; simp)
      all_goals (injection hr with _ h2; injection h2 with h3 _; injection h3 with h4 h5; injection h5 with _ h6; injection h6 with _ h7; subst h4; subst h7; simp)
    all_goals (injection hr with _ h2; injection h2 with h3 _; injection h3 with h4 h5; injection h5 with _ h6; injection h6 with _ h7; subst h4; subst h7; simp)
  all_goals (injection hr with _ h2; injection h2 with h3 _; injection h3 with h4 h5; injection h5 with _ h6; injection h6 with _ h7; subst h4; subst h7; simp)
set_option maxRecDepth 100000 in
set_option maxHeartbeats 4000000 in
theorem dgrants_law (v : Int) (wf0 : (Lit.int .i64 v).wf = true) (nx : Int) (wf1 : (Lit.int .i64 nx).wf = true) (fr : Int) (wf2 : (Lit.int .i64 fr).wf = true) (tt : Int) (wf3 : (Lit.int .i64 tt).wf = true) (at_ : Int) (wf4 : (Lit.int .i64 at_).wf = true) (by_ : Int) (wf5 : (Lit.int .i64 by_).wf = true) (how : Int) (wf6 : (Lit.int .i64 how).wf = true) (w : World) :
    Calls Tryz.prog 10 #[.int .i64 v, .int .i64 nx, .int .i64 fr, .int .i64 tt, .int .i64 at_, .int .i64 by_, .int .i64 how] w fun e w' => e = .returned (.bool true) ∧ Below w.heap.size w w' := by
  have hks := Lib.hid (fun x y W => ksigner_any x y W)
  have hwi := Lib.hid (fun x (m : Int) (h1 : 1 ≤ m) (h2 : m ≤ 4294967296) W => kwithin_any x m h1 h2 W)
  clear wf0 wf1 wf2 wf3 wf4 wf5 wf6
  go_enter Tryz.func10, Tryz.ntmps10
  go_wp2_with fail
  refine (hks.out _ _ _).mono ?_
  rintro e w1 ⟨v1, v2, sd, pk, rfl, s1, hsd, s2, hpk, hpl, hb1⟩
  obtain ⟨A1, c1, rfl, -, -⟩ := s1.mk_
  obtain ⟨A2, c2, rfl, -, -⟩ := s2.mk_
  replace hsd := Lib.hid hsd
  replace hpl := Lib.hid hpl
  clear hpk
  generalize nx % 2 = H at *
  have hal := balloc w1 (.cells #[.slice A1 sd.length c1, .int .i64 H, .int .i64 0] 39)
  have h15 := Box.new w1 39 [.slice A1 sd.length c1, .int .i64 H, .int .i64 0]
  change Box (w1.alloc (.cells #[.slice A1 sd.length c1, .int .i64 H, .int .i64 0] 39)) _ _ _ at h15
  dsimp only
  go_upto_region 2 with (fail)
  have s1' := seesB_of s1 (Nat.le_refl _) hal
  have s2' := seesB_of s2 (Nat.le_refl _) hal
  have hbw := bgo hb1 hal
  have hg15 : w.heap.size ≤ w1.heap.size := hb1.size
  generalize w1.alloc (.cells #[.slice A1 sd.length c1, .int .i64 H, .int .i64 0] 39) = W2 at *
  generalize w1.heap.size = g15 at *
  clear s1 s2 hal hb1
  have x2 := h15.cell 2
  simp only [List.getElem?_cons_zero, List.getElem?_cons_succ] at x2
  have f2 := h15.frozen 2
  have no15 := noBL3' (NoB.s A1 sd.length c1) (NoB.i H) (NoB.i 0)
  have hgr := setCell_grown W2 g15 2 (.int .i64 (nx % 4))
  have hz : (W2.setCell ⟨g15, 2, none⟩ (.int .i64 (nx % 4))).heap.size = W2.heap.size := by simp [World.setCell]
  have s1x := s1'.over (Nat.le_refl _) h15 no15 hgr
  have s2x := s2'.over (Nat.le_refl _) h15 no15 hgr
  have h15x := h15.set 2 (.int .i64 (nx % 4))
  simp only [List.set_cons_zero, List.set_cons_succ] at h15x
  have hbx := hbw.setCell (p := ⟨g15, 2, none⟩) hg15 (.int .i64 (nx % 4))
  rw [← hz] at s1x s2x
  clear s1' s2' hgr hz no15
  replace s1x := Lib.hid s1x
  replace s2x := Lib.hid s2x
  replace h15x := Lib.hid h15x
  replace hbx := Lib.hid hbx
  replace h15 := Lib.hid h15
  replace hbw := Lib.hid hbw
  go_wp2_with fail
  refine (hwi.out nx 4 (by omega) (by omega) _).mono ?_
  rintro e w3 ⟨rfl, rfl⟩
  generalize hN : nx % 4 = N at *
  replace hN := Lib.hid hN
  dsimp only
  go_upto_region 3 with (fail)
  clear x2 f2
  generalize w3.setCell ⟨g15, 2, none⟩ (.int .i64 N) = W3 at *
  clear h15 hbw
  go_wp2_with fail
  refine (hks.out _ _ _).mono ?_
  rintro e w4 ⟨u1, u2, sd2, pk2, rfl, r1, -, r2, -, hpl2, hb4⟩
  obtain ⟨A3, c3, rfl, -, -⟩ := r1.mk_
  obtain ⟨A4, c4, rfl, hc4, -⟩ := r2.mk_
  have hcc : Hid ((31 : Int) ≤ (c4 : Int)) := Lib.hid (by omega)
  clear hc4
  replace hpl2 := Lib.hid hpl2
  dsimp only
  go_upto_region 4 with (fail)
  have hX := balloc w4 (.cells #[.slice A3 sd2.length c3, .int .i64 0, .int .i64 0] 39)
  have hb5 := bgo hb4 hX
  have s1y := seesB_of s1x.out (Nat.le_refl _) hb5
  have s2y := seesB_of s2x.out (Nat.le_refl _) hb5
  have r2y := seesB_of r2 (Nat.le_refl _) hX
  have h15y := h15x.out.below hb5
  have hb6 := bgo hbx.out hb5
  generalize w4.alloc (.cells #[.slice A3 sd2.length c3, .int .i64 0, .int .i64 0] 39) = W4 at *
  clear s1x s2x h15x hbx hb4 r1 hX hb5 r2
  generalize w4.heap.size = gx at *
  clear hks
  have hw6 := Lib.hid (fun W => hwi.out how 6 (by omega) (by omega) W)
  have hw1 := Lib.hid (fun x W => hwi.out x 1000 (by omega) (by omega) W)
  have hw5 := Lib.hid (fun x W => hwi.out x 5 (by omega) (by omega) W)
  clear hwi
  replace s1y := Lib.hid s1y
  replace s2y := Lib.hid s2y
  replace r2y := Lib.hid r2y
  replace h15y := Lib.hid h15y
  replace hb6 := Lib.hid hb6
  go_wp2_with fail
  refine (hw6.out _).mono ?_
  rintro e w5 ⟨rfl, rfl⟩
  dsimp only
  go_upto_block 0 with (fail)
  go_cut [2, 3, 18] (fun v2 v3 v18 W => SwR w5 v2 v3 v18 W)
  case first =>
    replace hcc := hcc.out
    go_wp2_with fail
    all_goals (try (refine (hw1.out _ _).mono ?_; rintro e w6 ⟨rfl, rfl⟩; dsimp only; go_wp2_with fail; refine (hw1.out _ _).mono ?_; rintro e w7 ⟨rfl, rfl⟩; dsimp only; go_wp2_with fail))
    all_goals go_meet
    · have h5 := hpl2.out
      have h6 := r2y.out.cut (a := 0) (b := 31) (by omega) (by omega)
      obtain ⟨b4, o4, hA, -, -⟩ := r2y.out.at_ (by omega)
      rw [hA, cutA_zero, ← hA] at h6
      exact ⟨A4, c4, pk2.take 31, fr, tt, rfl, rfl, by rw [List.length_take, h5]; rfl, by rw [List.length_take]; omega, by
        have h7 : (pk2.take 31).length = 31 := by rw [List.length_take, h5]; rfl
        rw [h7]; exact h6, Below.refl _ _⟩
    all_goals exact ⟨A4, c4, pk2, _, _, rfl, rfl, rfl, by have := hpl2.out; omega, r2y.out, Below.refl _ _⟩
  case rest =>
    obtain ⟨A5, c5, pp, f, t, rfl, rfl, rfl, hpp, sp, hb7⟩ := hcut
    obtain ⟨w6, rfl⟩ : ∃ w6 : World, w6 = wc := ⟨_, rfl⟩
    have s1z := seesB_of s1y.out (Nat.le_refl _) hb7
    have s2z := seesB_of s2y.out (Nat.le_refl _) hb7
    have h15z := h15y.out.below hb7
    have hb8 := bgo hb6.out hb7
    clear s1y s2y r2y h15y hb6 hb7 hw6 hw1
    have hG := Lib.hid (fun u u2 W (hu : SeesB W W.heap.size u sd) (hu2 : SeesB W W.heap.size u2 pp) => grant_any W.heap.size u u2 sd pp H N f t W hu hu2 (Nat.le_refl _) (by omega))
    have hG2 := Lib.hid (fun u u2 W (hu : SeesB W W.heap.size u sd) (hu2 : SeesB W W.heap.size u2 pp) => rgrant_any W.heap.size u u2 sd pp H N f t W hu hu2 (Nat.le_refl _) (by omega))
    obtain ⟨q0, q1, q2, -, -, -⟩ := box3_cells h15z
    have hpp := Lib.hid hpp
    go_wp2_with fail
    refine (hG.out _ _ _ s1z sp).mono ?_
    rintro e w7 ⟨v1, v2, v3, rfl, a1, a2, a3, hb9⟩
    obtain ⟨A6, c6, rfl, -, -⟩ := a1.mk_
    obtain ⟨A7, c7, rfl, -, -⟩ := a2.mk_
    obtain ⟨A8, c8, rfl, -, -⟩ := a3.mk_
    generalize hR : grantR sd H N pp f t = R at *
    replace hR := Lib.hid hR
    obtain ⟨⟨rs, rh, rn⟩, ⟨rp, rf, rt, rg⟩, rc⟩ := R
    dsimp only at a1 a2 a3 ⊢
    have hY := bgo (balloc w7 (.cells #[.slice A6 rs.length c6, .int .i64 rh, .int .i64 rn] 39)) (balloc _ (.cells #[.slice A7 rp.length c7, .int .i64 rf, .int .i64 rt, .slice A8 rg.length c8] 37))
    have hX := bgo hb9 hY
    have k19 := (Box.new w7 39 [.slice A6 rs.length c6, .int .i64 rh, .int .i64 rn]).below (balloc _ (.cells #[.slice A7 rp.length c7, .int .i64 rf, .int .i64 rt, .slice A8 rg.length c8] 37))
    have k20 := Box.new (w7.alloc (.cells #[.slice A6 rs.length c6, .int .i64 rh, .int .i64 rn] 39)) 37 [.slice A7 rp.length c7, .int .i64 rf, .int .i64 rt, .slice A8 rg.length c8]
    rw [World.size_alloc] at k20
    change Box ((w7.alloc (.cells #[.slice A6 rs.length c6, .int .i64 rh, .int .i64 rn] 39)).alloc (.cells #[.slice A7 rp.length c7, .int .i64 rf, .int .i64 rt, .slice A8 rg.length c8] 37)) _ _ _ at k19 k20
    have a1y := seesB_of a1 (Nat.le_refl _) hY
    have a2y := seesB_of a2 (Nat.le_refl _) hY
    have a3y := seesB_of a3 (Nat.le_refl _) hY
    have s1x := seesB_of s1z (Nat.le_refl _) hX
    have s2x := seesB_of s2z (Nat.le_refl _) hX
    have sp2 := seesB_of sp (Nat.le_refl _) hX
    have h15x := h15z.below hX
    have hb10 := bgo hb8 hX
    clear a1 a2 a3 s1z s2z sp h15z hb8 hb9
    go_upto_region 13 with (fail)
    generalize (w7.alloc (.cells #[.slice A6 rs.length c6, .int .i64 rh, .int .i64 rn] 39)).alloc (.cells #[.slice A7 rp.length c7, .int .i64 rf, .int .i64 rt, .slice A8 rg.length c8] 37) = W7 at *
    clear hX hY
    obtain ⟨q0, q1, q2, -, -, -⟩ := box3_cells h15x
    go_wp2_with fail
    refine (hG2.out _ _ _ s1x sp2).mono ?_
    rintro e w8 ⟨v1, v2, v3, rfl, b1, b2, b3, hb11⟩
    obtain ⟨B6, d6, rfl, -, -⟩ := b1.mk_
    obtain ⟨B7, d7, rfl, -, -⟩ := b2.mk_
    obtain ⟨B8, d8, rfl, -, -⟩ := b3.mk_
    dsimp only at b1 b2 b3 ⊢
    have hsm := Lib.hid (grantR_small hR.out hpp.out)
    have hY := bgo (balloc w8 (.cells #[.slice B6 rs.length d6, .int .i64 rh, .int .i64 rn] 39)) (balloc _ (.cells #[.slice B7 rp.length d7, .int .i64 rf, .int .i64 rt, .slice B8 rg.length d8] 37))
    have hX := bgo hb11 hY
    have k22 := (Box.new w8 39 [.slice B6 rs.length d6, .int .i64 rh, .int .i64 rn]).below (balloc _ (.cells #[.slice B7 rp.length d7, .int .i64 rf, .int .i64 rt, .slice B8 rg.length d8] 37))
    have k23 := Box.new (w8.alloc (.cells #[.slice B6 rs.length d6, .int .i64 rh, .int .i64 rn] 39)) 37 [.slice B7 rp.length d7, .int .i64 rf, .int .i64 rt, .slice B8 rg.length d8]
    rw [World.size_alloc] at k23
    change Box ((w8.alloc (.cells #[.slice B6 rs.length d6, .int .i64 rh, .int .i64 rn] 39)).alloc (.cells #[.slice B7 rp.length d7, .int .i64 rf, .int .i64 rt, .slice B8 rg.length d8] 37)) _ _ _ at k22 k23
    have b1y := seesB_of b1 (Nat.le_refl _) hY
    have b2y := seesB_of b2 (Nat.le_refl _) hY
    have b3y := seesB_of b3 (Nat.le_refl _) hY
    have a1x := seesB_of a1y (Nat.le_refl _) hX
    have a2x := seesB_of a2y (Nat.le_refl _) hX
    have a3x := seesB_of a3y (Nat.le_refl _) hX
    have s2y := seesB_of s2x (Nat.le_refl _) hX
    have k19x := k19.below hX
    have k20x := k20.below hX
    have hb12 := bgo hb10 hX
    clear b1 b2 b3 a1y a2y a3y s1x s2x sp2 h15x hb10 hb11 q0 q1 q2 k19 k20 hR hG hG2
    go_upto_region 14 with (fail)
    generalize (w8.alloc (.cells #[.slice B6 rs.length d6, .int .i64 rh, .int .i64 rn] 39)).alloc (.cells #[.slice B7 rp.length d7, .int .i64 rf, .int .i64 rt, .slice B8 rg.length d8] 37) = W8 at *
    clear hX hY
    generalize w7.heap.size = g19 at *
    generalize w8.heap.size = g22 at *
    clear hpp
    have hS1 := Lib.hid (rsigsame_any _ _ _ rh rn _ a1x b1y)
    have hS2 := Lib.hid (fun W (hb : Below W8.heap.size W8 W) => rdsame_any _ _ _ _ _ _ rf rt W (seesB_of a2x (Nat.le_refl _) hb) (seesB_of a3x (Nat.le_refl _) hb) (seesB_of b2y (Nat.le_refl _) hb) (seesB_of b3y (Nat.le_refl _) hb))
    obtain ⟨m0, m1, m2, -, -, -⟩ := box3_cells k19x
    obtain ⟨n0, n1, n2, -, -, -⟩ := box3_cells k22
    go_wp2_with fail
    refine hS1.out.mono ?_
    rintro e w9 ⟨rfl, hb13⟩
    dsimp only
    obtain ⟨p0, p1, p2, p3, -, -, -, -⟩ := box4_cells (k20x.below hb13)
    obtain ⟨r0, r1, r2, r3, -, -, -, -⟩ := box4_cells (k23.below hb13)
    go_wp2_with fail
    refine (hS2.out w9 hb13).mono ?_
    rintro e w10 ⟨rfl, hb14⟩
    dsimp only
    go_upto_region 16 with (fail)
    have hb15 := bgo hb13 hb14
    have hX := balloc w10 (.cells #[.slice B7 rp.length d7, .int .i64 rf, .int .i64 rt, .slice B8 rg.length d8] 37)
    have hb16 := bgo hb15 hX
    have k25 := Box.new w10 37 [.slice B7 rp.length d7, .int .i64 rf, .int .i64 rt, .slice B8 rg.length d8]
    change Box (w10.alloc (.cells #[.slice B7 rp.length d7, .int .i64 rf, .int .i64 rt, .slice B8 rg.length d8] 37)) _ _ _ at k25
    have y1 := seesB_of s2y (Nat.le_refl _) hb16
    have y2 := seesB_of b2y (Nat.le_refl _) hb16
    have y3 := seesB_of b3y (Nat.le_refl _) hb16
    have hb17 := bgo hb12 hb16
    have hg25 : w.heap.size ≤ w10.heap.size := (bgo hb12 hb15).size
    obtain ⟨l0, l1, l2, l3, -, -, -, -⟩ := box4_cells (k23.below hb15)
    clear p0 p1 p2 p3 r0 r1 r2 r3 m0 m1 m2 n0 n1 n2 hS1 hS2 a1x b1y a2x a3x b2y b3y s2y k19x k20x k22 k23 hb13 hb14
    go_wp2_with fail
    refine (hw5.out _ _).mono ?_
    rintro e w11 ⟨rfl, hW⟩
    rw [← hW] at k25 y1 y2 y3 hb17
    clear hW hX hb16 hw5 l0 l1 l2 l3 hb15 hb12
    generalize w10.heap.size = g25 at *
    dsimp only
    have hm2 : rg.length ≤ 1048576 := hsm.out.2
    have hm1 : rp.length ≤ 1048576 := by have := hsm.out.1; omega
    have hm0 : pk.length ≤ 1048576 := by have := hpl.out; omega
    have hF0 := Lib.hid (kflip_any _ _ at_ by_ _ y2 hm1)
    have hF3 := Lib.hid (kflip_any _ _ at_ by_ _ y3 hm2)
    have hFk := Lib.hid (kflip_any _ _ at_ by_ _ y1 hm0)
    replace hm2 := Lib.hid hm2
    clear hm1 hm0
    go_upto_block 1 with (fail)
    go_cut [16] (fun v16 W => SwQ w g25 v16 W)
    case first =>
      obtain ⟨p0, p1, p2, p3, z0, z1, z2, z3⟩ := box4_cells k25
      go_wp2_with fail
      · go_meet
        exact swq_2 _ k25 y1 y2 y3 hm2.out hg25 hb17
      · refine hF0.out.mono ?_
        rintro e w12 ⟨l', hl', v', rfl, o, hbl⟩
        replace hl' := Lib.hid hl'
        have ox := o.sees
        obtain ⟨X, cx, rfl, -, -⟩ := ox.mk_
        have z1 := k25.below hbl
        have yk := seesB_of y1 (Nat.le_refl _) hbl
        have yp := seesB_of y2 (Nat.le_refl _) hbl
        have ys := seesB_of y3 (Nat.le_refl _) hbl
        have hbx := bgo hb17 hbl
        have zz := z1.frozen 0
        have zc := z1.cell 0
        simp only [List.getElem?_cons_zero, List.getElem?_cons_succ] at zc
        dsimp only
        go_wp2_with fail
        go_meet
        exact swq_0 z1 ox yk yp ys hm2.out hg25 hbx
      · refine hF3.out.mono ?_
        rintro e w12 ⟨l', hl', v', rfl, o, hbl⟩
        replace hl' := Lib.hid hl'
        have ox := o.sees
        obtain ⟨X, cx, rfl, -, -⟩ := ox.mk_
        have z1 := k25.below hbl
        have yk := seesB_of y1 (Nat.le_refl _) hbl
        have yp := seesB_of y2 (Nat.le_refl _) hbl
        have hbx := bgo hb17 hbl
        have zz := z1.frozen 3
        have zc := z1.cell 3
        simp only [List.getElem?_cons_zero, List.getElem?_cons_succ] at zc
        dsimp only
        go_wp2_with fail
        go_meet
        exact swq_3 z1 ox yk yp (by have h1 := hl'.out; have h2 := hm2.out; omega) hg25 hbx
      · refine hFk.out.mono ?_
        rintro e w12 ⟨l', hl', v', rfl, o, hbl⟩
        replace hl' := Lib.hid hl'
        have ox := o.sees
        obtain ⟨X, cx, rfl, -, -⟩ := ox.mk_
        have z1 := k25.below hbl
        have yp := seesB_of y2 (Nat.le_refl _) hbl
        have ys := seesB_of y3 (Nat.le_refl _) hbl
        have hbx := bgo hb17 hbl
        dsimp only
        go_wp2_with fail
        go_meet
        exact swq_id z1 ox yp ys hm2.out hbx
      · go_meet
        exact swq_id k25 y1 y2 y3 hm2.out hb17
    case rest =>
      obtain ⟨A, A', A9, c, c', c9, k, p, s, f2, t2, rfl, bx, hk, hp, hs, hl, hbz⟩ := hcut
      obtain ⟨w13, rfl⟩ : ∃ w13 : World, w13 = wc := ⟨_, rfl⟩
      clear k25 y1 y2 y3 hb17 hF0 hF3 hFk hm2 hsm
      replace hl := Lib.hid hl
      go_upto_region 26 with (fail)
      generalize hC : dcheckC k p f2 t2 s = C at *
      have hKn := Lib.hid (fun W => dknown_any W)
      have K := Lib.hid (show ∀ W, Below w13.heap.size w13 W → (W.cell? ⟨g25, 0, none⟩ = some (.slice A' p.length c') ∧ W.cell? ⟨g25, 1, none⟩ = some (.int .i64 f2) ∧ W.cell? ⟨g25, 2, none⟩ = some (.int .i64 t2) ∧ W.cell? ⟨g25, 3, none⟩ = some (.slice A9 s.length c9)) from fun W hb => ⟨(bx.below hb).cell 0, (bx.below hb).cell 1, (bx.below hb).cell 2, (bx.below hb).cell 3⟩)
      have hD1 := Lib.hid (fun W (hb : Below w13.heap.size w13 W) => dcheck_any w13.heap.size _ _ _ _ _ _ f2 t2 W (hk.below hb) (hp.below hb) (hs.below hb) hb.size hl.out)
      have hD2 := Lib.hid (fun W (hb : Below w13.heap.size w13 W) => rdcheck_any w13.heap.size _ _ _ _ _ _ f2 t2 W (hk.below hb) (hp.below hb) (hs.below hb) hb.size hl.out)
      replace hC := Lib.hid hC
      obtain ⟨p0, p1, p2, p3⟩ := K.out w13 (Below.refl _ _)
      clear q0 q1 q2
      replace hbz := Lib.hid hbz
      go_region_held3 (fun W' : World => W'.cell? ⟨g25, 0, none⟩ = some (.slice A' p.length c') ∧ W'.cell? ⟨g25, 1, none⟩ = some (.int .i64 f2) ∧ W'.cell? ⟨g25, 2, none⟩ = some (.int .i64 t2) ∧ W'.cell? ⟨g25, 3, none⟩ = some (.slice A9 s.length c9))
        (first | (with_reducible exact K.out _ hy3) | (with_reducible exact K.out _ hy2) | (with_reducible exact K.out _ hy1) | exact K.out _ (by (repeat (first | exact Below.refl _ _ | (refine bgo ?_ (balloc _ _)) | (refine bgo ?_ (bdrew _)) | (refine bgo ?_ (by assumption))))) | (go_keep; done))
        (first
          | (go_at_call 20; (with_reducible refine (hKn.out _).mono ?_); rintro e x1 ⟨rfl, hy1⟩
             replace hy1 := bgo (bdrew w13) hy1)
          | (go_at_call 49; (with_reducible refine (hD1.out _ hy1).mono ?_); rintro e x2 ⟨rfl, hy2⟩
             replace hy2 := bgo hy1 hy2)
          | (go_at_call 50; (with_reducible refine (hD2.out _ hy2).mono ?_); rintro e x3 ⟨rfl, hy3⟩
             replace hy3 := bgo hy2 hy3))
      go_wp2_with fail
      go_ret
      exact ⟨rfl, bgo hbz.out hy3⟩
end Go.Proofs.YtafmjdnbbabckaaGreat

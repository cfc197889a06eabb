/- What a law leans on beyond the base: contracts, plain functions, walks. Conditions: those of each theorem. -/
import Derived.Test.YtjgepckncogdaaaGreatTCtK
import Derived.Test.YtjgepckncogdaaaGreatSCtB
set_option linter.unusedVariables false
set_option linter.unusedSimpArgs false
namespace Go.Proofs.YtjgepckncogdaaaGreat
open Go Go.RowKit
set_option linter.unusedVariables false
set_option linter.unusedSimpArgs false
attribute [local go_sem ↓] Go.wp_at_zero Go.wp_at_succ
def CsgM (w2 : World) (sd1 : Bs) (h1 n1 : Int) (SG : Bs) (E : Int) (v7 v8 v9 : Value) (W : World) : Prop :=
 ∃ g7 AV cV AG cG, v7 = .pointer (some ⟨g7, 0, none⟩) ∧ v8 = .slice AG SG.length cG ∧ v9 = .int .i64 E ∧ Box W g7 27 [.slice AV sd1.length cV, .int .i64 h1, .int .i64 n1] ∧ w2.heap.size ≤ g7 ∧ SeesB W W.heap.size (.slice AV sd1.length cV) sd1 ∧ SeesB W W.heap.size (.slice AG SG.length cG) SG ∧ Below w2.heap.size w2 W
theorem csg_mid {w2 X : World} {g7 : Nat} {AV AG : Option Addr} {cV cG : Nat} {sd1 SG : Bs} {h1 n1 E : Int} (hZ : Box X g7 27 [.slice none 0 0, .int .i64 0, .int .i64 0]) (hg : w2.heap.size ≤ g7) (hV : SeesB X X.heap.size (.slice AV sd1.length cV) sd1) (hG : SeesB X X.heap.size (.slice AG SG.length cG) SG) (hb : Below w2.heap.size w2 X) :
 CsgM w2 sd1 h1 n1 SG E (.pointer (some ⟨g7, 0, none⟩)) (.slice AG SG.length cG) (.int .i64 E) (((X.setCell ⟨g7, 0, none⟩ (.slice AV sd1.length cV)).setCell ⟨g7, 1, none⟩ (.int .i64 h1)).setCell ⟨g7, 2, none⟩ (.int .i64 n1)) :=
 ⟨g7, AV, cV, AG, cG, rfl, rfl, rfl, lset3 hZ _ _ _, hg, sees_s3 hZ (noBL3' (NoB.s none 0 0) (NoB.i 0) (NoB.i 0)) _ _ _ hV, sees_s3 hZ (noBL3' (NoB.s none 0 0) (NoB.i 0) (NoB.i 0)) _ _ _ hG, ((hb.setCell (p := ⟨g7, 0, none⟩) hg _).setCell (p := ⟨g7, 1, none⟩) hg _).setCell (p := ⟨g7, 2, none⟩) hg _⟩
theorem boxP2 {W : World} {g : Nat} {T : TypeId} {a b c d e : Value} (h : Box W g T [a, b, c, d, e]) (y q : Value) : Box ((W.setCell ⟨g, 1, none⟩ y).setCell ⟨g, 4, none⟩ q) g T [a, y, c, d, q] := by
 have z := (h.set 1 y).set 4 q
 simpa only [List.set_cons_zero, List.set_cons_succ] using z
theorem offP2 {W : World} {g G : Nat} {T : TypeId} {xs : List Value} (h : Box W g T xs) (hne : g ≠ G) (y q : Value) : Box ((W.setCell ⟨G, 1, none⟩ y).setCell ⟨G, 4, none⟩ q) g T xs := (h.other hne).other hne
theorem seesP2 {W : World} {g : Nat} {T : TypeId} {a b c d e u : Value} {l : Bs} (h : Box W g T [a, b, c, d, e]) (n : NoByte [a, b, c, d, e]) (y q : Value) (hs : SeesB W W.heap.size u l) : SeesB ((W.setCell ⟨g, 1, none⟩ y).setCell ⟨g, 4, none⟩ q) ((W.setCell ⟨g, 1, none⟩ y).setCell ⟨g, 4, none⟩ q).heap.size u l := by
 have hz : ((W.setCell ⟨g, 1, none⟩ y).setCell ⟨g, 4, none⟩ q).heap.size = W.heap.size := by simp [World.setCell]
 rw [hz]
 exact hs.over (Nat.le_refl _) h n (ggo (setCell_grown W g 1 _) (setCell_grown _ g 4 _))
def CSgnP (n p : Bs) (f t : Int) (r : Bs × Int × Int × Bs × Int) (w : World) (e : Ending) (w' : World) : Prop :=
 ∃ v v2 v3, e = .returned (.tuple #[.agg #[v, .int .i64 r.2.1, .int .i64 r.2.2.1], (if r.2.2.2.2 = 0 then .agg #[.string (strB n), v2, .int .i64 f, .int .i64 t, v3] else .agg #[.string { data := #[] }, .slice none 0 0, .int .i64 0, .int .i64 0, .slice none 0 0]), .int .i64 r.2.2.2.2]) ∧ SeesB w' w'.heap.size v r.1 ∧ SeesB w' w'.heap.size v2 (if r.2.2.2.2 = 0 then p else []) ∧ SeesB w' w'.heap.size v3 r.2.2.2.1 ∧ Below w.heap.size w w'
theorem signAll_err {seed : Bs} {h n : Int} {m : Bs} {sd1 SG : Bs} {h1 n1 E : Int} (hr : signAll seed h n m = (sd1, h1, n1, SG, E)) (hv : validI seed h n = true) (hE : E ≠ 0) : E = 7 ∧ sd1 = [] ∧ h1 = 0 ∧ n1 = 0 ∧ SG = [] := by
 unfold signAll at hr
 rw [if_pos hv] at hr
 split at hr
 · simp only [Prod.mk.injEq] at hr; obtain ⟨a, b, c, d, e⟩ := hr; exact ⟨e.symm, a.symm, b.symm, c.symm, d.symm⟩
 · simp only [Prod.mk.injEq] at hr; exact absurd hr.2.2.2.2.symm hE
set_option maxRecDepth 100000 in
set_option maxHeartbeats 8000000 in
theorem csgn_any (B : Nat) (u u2 : Value) (sd n p : Bs) (h n0 f t : Int) (w : World) (hu : SeesB w B u sd) (hu2 : SeesB w B u2 p) (hB : B ≤ w.heap.size) (hV1 : validI sd h n0 = true) (hF1 : formB n p.length f t = true) (r : Bs × Int × Int × Bs × Int) (hr : signAll sd h n0 (ctextB n p f t) = r) :
 Calls Tryz.prog 49 #[.agg #[u, .int .i64 h, .int .i64 n0], .agg #[.string (strB n), u2, .int .i64 f, .int .i64 t, .slice none 0 0]] w (CSgnP n p f t r w) := by
 obtain ⟨As, cs, rfl, -, -⟩ := hu.mk_
 obtain ⟨Ap, cp, rfl, -, -⟩ := hu2.mk_
 have hvd := fun W hW => svalid_any W.heap.size (.slice As sd.length cs) sd h n0 W hW
 have hfo := fun W => cformed_any n Ap p.length cp none 0 0 f t W
 rw [hV1] at hvd
 obtain ⟨f1, f2, f3, f4⟩ := form_parts hF1
 rw [hF1] at hfo
 have hm := ctext_len n p f t f2 f3
 have htx0 := fun (W : World) (hW : SeesB W W.heap.size (.slice Ap p.length cp) p) => csigned_any W.heap.size (.slice Ap p.length cp) n p f t none 0 0 W hW (Nat.le_refl _) (by omega) (by omega)
 have hsn0 := fun (W : World) (v : Value) (hW : SeesB W W.heap.size (.slice As sd.length cs) sd) (hv : SeesB W W.heap.size v (ctextB n p f t)) => sign_all W.heap.size (.slice As sd.length cs) v sd (ctextB n p f t) h n0 W hW hv (Nat.le_refl _) (by omega)
 have hM0 : tCert ++ putB 2 n.length ++ n ++ p ++ spanL f t = ctextB n p f t := by rw [show spanL f t = spanB f t by rw [spanL, if_pos f4]]; rfl
 rw [hM0] at htx0
 rw [hr] at hsn0
 unfold SignPost at hsn0
 obtain ⟨sd1, h1, n1, SG, E⟩ := r
 dsimp only at hsn0
 generalize hMM : ctextB n p f t = M at *
 have hS0 := Lib.hid (Eq.refl (strB n))
 generalize hS1 : strB n = S0 at *
 replace hS0 : Hid (strB n = S0) := hS1
 have hwp := Lib.hid f3
 have hz : E ≠ 0 → E = 7 ∧ sd1 = [] ∧ h1 = 0 ∧ n1 = 0 ∧ SG = [] := signAll_err hr hV1
 replace hz := Lib.hid hz
 clear hS1 hM0 hMM hr f1 f2 f3 f4 hm hV1 hF1
 have b1 := balloc w (.cells #[.slice As sd.length cs, .int .i64 h, .int .i64 n0] 27)
 have b2 := balloc (w.alloc (.cells #[.slice As sd.length cs, .int .i64 h, .int .i64 n0] 27)) (.cells #[.string S0, .slice Ap p.length cp, .int .i64 f, .int .i64 t, .slice none 0 0] 70)
 have b3 := balloc ((w.alloc (.cells #[.slice As sd.length cs, .int .i64 h, .int .i64 n0] 27)).alloc (.cells #[.string S0, .slice Ap p.length cp, .int .i64 f, .int .i64 t, .slice none 0 0] 70)) (.cells #[.slice none 0 0, .int .i64 0, .int .i64 0] 27)
 have b4 := balloc (((w.alloc (.cells #[.slice As sd.length cs, .int .i64 h, .int .i64 n0] 27)).alloc (.cells #[.string S0, .slice Ap p.length cp, .int .i64 f, .int .i64 t, .slice none 0 0] 70)).alloc (.cells #[.slice none 0 0, .int .i64 0, .int .i64 0] 27)) (.cells #[.string { data := #[] }, .slice none 0 0, .int .i64 0, .int .i64 0, .slice none 0 0] 70)
 have hbw0 := bgo (bgo (bgo b1 b2) b3) b4
 have x2 := (((Box.new w 27 [.slice As sd.length cs, .int .i64 h, .int .i64 n0]).below b2).below b3).below b4
 have x3 := ((Box.new (w.alloc (.cells #[.slice As sd.length cs, .int .i64 h, .int .i64 n0] 27)) 70 [.string S0, .slice Ap p.length cp, .int .i64 f, .int .i64 t, .slice none 0 0]).below b3).below b4
 have x4 := (Box.new ((w.alloc (.cells #[.slice As sd.length cs, .int .i64 h, .int .i64 n0] 27)).alloc (.cells #[.string S0, .slice Ap p.length cp, .int .i64 f, .int .i64 t, .slice none 0 0] 70)) 27 [.slice none 0 0, .int .i64 0, .int .i64 0]).below b4
 have x5 := Box.new (((w.alloc (.cells #[.slice As sd.length cs, .int .i64 h, .int .i64 n0] 27)).alloc (.cells #[.string S0, .slice Ap p.length cp, .int .i64 f, .int .i64 t, .slice none 0 0] 70)).alloc (.cells #[.slice none 0 0, .int .i64 0, .int .i64 0] 27)) 70 [.string { data := #[] }, .slice none 0 0, .int .i64 0, .int .i64 0, .slice none 0 0]
 rw [World.size_alloc] at x3
 rw [World.size_alloc, World.size_alloc] at x4
 rw [World.size_alloc, World.size_alloc, World.size_alloc] at x5
 change Box ((((w.alloc (.cells #[.slice As sd.length cs, .int .i64 h, .int .i64 n0] 27)).alloc (.cells #[.string S0, .slice Ap p.length cp, .int .i64 f, .int .i64 t, .slice none 0 0] 70)).alloc (.cells #[.slice none 0 0, .int .i64 0, .int .i64 0] 27)).alloc (.cells #[.string { data := #[] }, .slice none 0 0, .int .i64 0, .int .i64 0, .slice none 0 0] 70)) _ _ _ at x2 x3
 change Box ((((w.alloc (.cells #[.slice As sd.length cs, .int .i64 h, .int .i64 n0] 27)).alloc (.cells #[.string S0, .slice Ap p.length cp, .int .i64 f, .int .i64 t, .slice none 0 0] 70)).alloc (.cells #[.slice none 0 0, .int .i64 0, .int .i64 0] 27)).alloc (.cells #[.string { data := #[] }, .slice none 0 0, .int .i64 0, .int .i64 0, .slice none 0 0] 70)) _ _ _ at x4 x5
 change Below _ w ((((w.alloc (.cells #[.slice As sd.length cs, .int .i64 h, .int .i64 n0] 27)).alloc (.cells #[.string S0, .slice Ap p.length cp, .int .i64 f, .int .i64 t, .slice none 0 0] 70)).alloc (.cells #[.slice none 0 0, .int .i64 0, .int .i64 0] 27)).alloc (.cells #[.string { data := #[] }, .slice none 0 0, .int .i64 0, .int .i64 0, .slice none 0 0] 70)) at hbw0
 have ss := seesB_of hu hB hbw0
 have sp := seesB_of hu2 hB hbw0
 clear b1 b2 b3 b4 hu hu2 hB
 go_enter Tryz.func49, Tryz.ntmps49
 go_upto_region 1 with (fail)
 generalize (((w.alloc (.cells #[.slice As sd.length cs, .int .i64 h, .int .i64 n0] 27)).alloc (.cells #[.string S0, .slice Ap p.length cp, .int .i64 f, .int .i64 t, .slice none 0 0] 70)).alloc (.cells #[.slice none 0 0, .int .i64 0, .int .i64 0] 27)).alloc (.cells #[.string { data := #[] }, .slice none 0 0, .int .i64 0, .int .i64 0, .slice none 0 0] 70) = W0 at *
 obtain ⟨g2, hg2⟩ : ∃ x, x = w.heap.size := ⟨_, rfl⟩
 have hbw : Hid (Below w.heap.size w W0) := hbw0
 rw [← hg2] at x2 x3 x4 x5 ⊢
 generalize hg3 : g2 + 1 = g3 at *
 generalize hg4 : g3 + 1 = g4 at *
 generalize hg5 : g4 + 1 = g5 at *
 have hw4 : Hid (w.heap.size ≤ g4) := by show _ ≤ _; omega
 have hw5 : Hid (w.heap.size ≤ g5) := by show _ ≤ _; omega
 have hne45 : Hid (g4 ≠ g5) := by show _ ≠ _; omega
 have hne54 : Hid (g5 ≠ g4) := by show _ ≠ _; omega
 replace hg2 := Lib.hid hg2
 replace hg3 := Lib.hid hg3
 replace hg4 := Lib.hid hg4
 replace hg5 := Lib.hid hg5
 obtain ⟨y0, y1, y2, -, -, -⟩ := box3_cells x2
 have hv1 := Lib.hid (hvd W0 ss)
 clear hbw0 hvd
 go_wp2_with fail
 refine hv1.out.mono ?_
 rintro e W1 ⟨rfl, hb1⟩
 replace x2 := x2.below hb1
 replace x3 := x3.below hb1
 replace x4 := x4.below hb1
 replace x5 := x5.below hb1
 replace hbw := Lib.hid (bgo hbw.out hb1)
 replace ss := seesB_of ss (Nat.le_refl _) hb1
 replace sp := seesB_of sp (Nat.le_refl _) hb1
 clear hv1 y0 y1 y2 hb1
 obtain ⟨y0, y1, y2, y3, y4⟩ := box5_cells x3
 replace hfo := Lib.hid hfo
 dsimp only
 go_wp2_with fail
 refine (hfo.out _).mono ?_
 rintro e W2 ⟨rfl, hb1⟩
 replace x2 := x2.below hb1
 replace x3 := x3.below hb1
 replace x4 := x4.below hb1
 replace x5 := x5.below hb1
 replace hbw := Lib.hid (bgo hbw.out hb1)
 replace ss := seesB_of ss (Nat.le_refl _) hb1
 replace sp := seesB_of sp (Nat.le_refl _) hb1
 clear hfo y0 y1 y2 y3 y4 hb1
 have htx := Lib.hid (fun W (hW : Below W2.heap.size W2 W) => htx0 W (seesB_of sp (Nat.le_refl _) hW))
 have hsn := Lib.hid (fun W v (hW : Below W2.heap.size W2 W) (hv : SeesB W W.heap.size v M) => hsn0 W v (seesB_of ss (Nat.le_refl _) hW) hv)
 have K : Hid (∀ W : World, Below W2.heap.size W2 W → W.cell? ⟨g2, 0, none⟩ = some (.slice As sd.length cs) ∧ W.cell? ⟨g2, 1, none⟩ = some (.int .i64 h) ∧ W.cell? ⟨g2, 2, none⟩ = some (.int .i64 n0) ∧ W.cell? ⟨g3, 0, none⟩ = some (.string S0) ∧ W.cell? ⟨g3, 1, none⟩ = some (.slice Ap p.length cp) ∧ W.cell? ⟨g3, 2, none⟩ = some (.int .i64 f) ∧ W.cell? ⟨g3, 3, none⟩ = some (.int .i64 t) ∧ W.cell? ⟨g3, 4, none⟩ = some (.slice none 0 0)) := fun W hW => by
  obtain ⟨a0, a1, a2, -, -, -⟩ := box3_cells (x2.below hW)
  obtain ⟨c0, c1, c2, c3, c4⟩ := box5_cells (x3.below hW)
  exact ⟨a0, a1, a2, c0, c1, c2, c3, c4⟩
 have hbC := Lib.hid (bdrew W2)
 have sp2 := Lib.hid sp
 have x33 := Lib.hid x3
 replace x4 := Lib.hid x4
 replace x5 := Lib.hid x5
 clear htx0 hsn0 ss sp x2 x3
 dsimp only
 go_wp2_with fail
 go_cut [7, 8, 9] (fun v7 v8 v9 W => CsgM W2 sd1 h1 n1 SG E v7 v8 v9 W)
 case first =>
  refine wp_region_J (fun W' : World => W'.cell? ⟨g2, 0, none⟩ = some (.slice As sd.length cs) ∧ W'.cell? ⟨g2, 1, none⟩ = some (.int .i64 h) ∧ W'.cell? ⟨g2, 2, none⟩ = some (.int .i64 n0) ∧ W'.cell? ⟨g3, 0, none⟩ = some (.string S0) ∧ W'.cell? ⟨g3, 1, none⟩ = some (.slice Ap p.length cp) ∧ W'.cell? ⟨g3, 2, none⟩ = some (.int .i64 f) ∧ W'.cell? ⟨g3, 3, none⟩ = some (.int .i64 t) ∧ W'.cell? ⟨g3, 4, none⟩ = some (.slice none 0 0)) 9 (by kernel_rfl) ?_ (fun hHeld => ?_)
  · (try dsimp only); (first | exact K.out _ hbC.out | exact K.out _ (bdrew W2))
  generalize W2.drew = X at *
  refine wpAnyJ_take (i := 0) (v := ?_) rfl (by kernel_rfl) (by kernel_rfl) (by kernel_rfl) (fun _ _ _ h => h) (by rfl) rfl (by kernel_rfl) (by kernel_rfl) (Or.inl ⟨by rfl, ?_⟩) (by assumption) ?_
  rotate_left 1
  · intro w hSw; (try dsimp only at hSw); go_simp <;> (try with_reducible rfl)
  try simp only [Act.put, List.getElem_toArray, List.getElem_cons_succ, List.getElem_cons_zero, List.setIfInBounds_toArray, List.set_cons_zero, List.set_cons_succ]
  refine wpAnyJ_take (i := 1) (v := ?_) rfl (by kernel_rfl) (by kernel_rfl) (by kernel_rfl) (fun _ _ _ h => h) (by rfl) rfl (by kernel_rfl) (by kernel_rfl) (Or.inl ⟨by rfl, ?_⟩) (by assumption) ?_
  rotate_left 1
  · intro w hSw; (try dsimp only at hSw); go_simp <;> (try with_reducible rfl)
  try simp only [Act.put, List.getElem_toArray, List.getElem_cons_succ, List.getElem_cons_zero, List.setIfInBounds_toArray, List.set_cons_zero, List.set_cons_succ]
  refine wpAnyJ_ready (rs := [2, 8]) (by kernel_rfl) (by simp) ?_
  refine AllReadyJ.cons (o := _) rfl (fun Kq hKq => ?_) ?_
  · go_simp
    go_at_call 111
    refine (htx.out X hbC.out).mono ?_
    rintro e X ⟨vM, rfl, hM, hal⟩
    obtain ⟨AM, cM, rfl, -, -⟩ := hM.sees.mk_
    replace hM := hM.sees
    replace hbC := Lib.hid (bgo hbC.out hal)
    clear hal
    go_wp2_with fail
    refine hKq.out _ _ ?_ (fun hHeld => ?_)
    · intro _; (try dsimp only); (first | exact K.out _ hbC.out | exact K.out _ (bdrew W2))
    clear hKq Kq
    try simp only [Act.put, List.getElem_toArray, List.getElem_cons_succ, List.getElem_cons_zero, List.setIfInBounds_toArray, List.set_cons_zero, List.set_cons_succ]
    refine wpAnyJ_ready (rs := [3, 8]) (by kernel_rfl) (by simp) ?_
    refine AllReadyJ.cons (o := _) rfl (fun Kq hKq => ?_) ?_
    · go_simp
      go_at_call 69
      refine (hsn.out X _ hbC.out hM).mono ?_
      rintro e X ⟨vV, vG, rfl, hV, hG, hal⟩
      obtain ⟨AV, cV, rfl, -, -⟩ := hV.mk_
      obtain ⟨AG, cG, rfl, -, -⟩ := hG.mk_
      dsimp only at hV hG ⊢
      replace hM := seesB_of hM (Nat.le_refl _) hal
      replace hbC := Lib.hid (bgo hbC.out hal)
      clear hal
      go_wp2_with fail
      refine hKq.out _ _ ?_ (fun hHeld => ?_)
      · intro _; (try dsimp only); (first | exact K.out _ hbC.out | exact K.out _ (bdrew W2))
      clear hKq Kq
      try simp only [Act.put, List.getElem_toArray, List.getElem_cons_succ, List.getElem_cons_zero, List.setIfInBounds_toArray, List.set_cons_zero, List.set_cons_succ]
      refine wpAnyJ_take0 (i := 4) (v := ?_) rfl (by kernel_rfl) (by kernel_rfl) (by kernel_rfl) (fun _ _ _ h => h) (by rfl) (Or.inl ⟨by rfl, ?_⟩) (by assumption) ?_
      rotate_left 1
      · intro w hSw; (try dsimp only at hSw); go_simp <;> (try with_reducible rfl)
      try simp only [Act.put, List.getElem_toArray, List.getElem_cons_succ, List.getElem_cons_zero, List.setIfInBounds_toArray, List.set_cons_zero, List.set_cons_succ]
      refine wpAnyJ_take0 (i := 5) (v := ?_) rfl (by kernel_rfl) (by kernel_rfl) (by kernel_rfl) (fun _ _ _ h => h) (by rfl) (Or.inl ⟨by rfl, ?_⟩) (by assumption) ?_
      rotate_left 1
      · intro w hSw; (try dsimp only at hSw); go_simp <;> (try with_reducible rfl)
      try simp only [Act.put, List.getElem_toArray, List.getElem_cons_succ, List.getElem_cons_zero, List.setIfInBounds_toArray, List.set_cons_zero, List.set_cons_succ]
      refine wpAnyJ_take0 (i := 6) (v := ?_) rfl (by kernel_rfl) (by kernel_rfl) (by kernel_rfl) (fun _ _ _ h => h) (by rfl) (Or.inl ⟨by rfl, ?_⟩) (by assumption) ?_
      rotate_left 1
      · intro w hSw; (try dsimp only at hSw); go_simp <;> (try with_reducible rfl)
      try simp only [Act.put, List.getElem_toArray, List.getElem_cons_succ, List.getElem_cons_zero, List.setIfInBounds_toArray, List.set_cons_zero, List.set_cons_succ]
      refine wpAnyJ_take0 (i := 7) (v := ?_) rfl (by kernel_rfl) (by kernel_rfl) (by kernel_rfl) (fun _ _ _ h => h) (by rfl) (Or.inl ⟨by rfl, ?_⟩) (by assumption) ?_
      rotate_left 1
      · intro w hSw; (try dsimp only at hSw); go_simp <;> (try with_reducible rfl)
      try simp only [Act.put, List.getElem_toArray, List.getElem_cons_succ, List.getElem_cons_zero, List.setIfInBounds_toArray, List.set_cons_zero, List.set_cons_succ]
      refine wpAnyJ_ready (rs := [8]) (by kernel_rfl) (by simp) ?_
      refine AllReadyJ.cons (o := _) rfl (fun Kq hKq => ?_) ?_
      · go_simp
        have hal := balloc X (.cells #[.slice none 0 0, .int .i64 0, .int .i64 0] 27)
        have hZ := Box.new X 27 [.slice none 0 0, .int .i64 0, .int .i64 0]
        change Box (X.alloc (.cells #[.slice none 0 0, .int .i64 0, .int .i64 0] 27)) _ _ _ at hZ
        have hg7 := hbC.out.size
        replace hV := seesB_of hV (Nat.le_refl _) hal
        replace hG := seesB_of hG (Nat.le_refl _) hal
        replace hbC := Lib.hid (bgo hbC.out hal)
        clear hal
        generalize X.heap.size = g7 at hZ hg7 ⊢
        generalize X.alloc (.cells #[.slice none 0 0, .int .i64 0, .int .i64 0] 27) = X at *
        obtain ⟨e0, e1, e2, j0, j1, j2⟩ := box3_cells hZ
        refine hKq.out _ _ ?_ (fun hHeld => ?_)
        · intro _; (try dsimp only); (first | exact K.out _ hbC.out | exact K.out _ (bdrew W2))
        clear hKq Kq
        try simp only [Act.put, List.getElem_toArray, List.getElem_cons_succ, List.getElem_cons_zero, List.setIfInBounds_toArray, List.set_cons_zero, List.set_cons_succ]
        refine wpAnyJ_ready (rs := [9]) (by kernel_rfl) (by simp) ?_
        refine AllReadyJ.cons (o := _) rfl (fun Kq hKq => ?_) ?_
        · go_simp
          refine hKq.out _ _ ?_ (fun hHeld => ?_)
          · intro hl; exact absurd hl (by decide)
          clear hKq Kq
          try simp only [Act.put, List.getElem_toArray, List.getElem_cons_succ, List.getElem_cons_zero, List.setIfInBounds_toArray, List.set_cons_zero, List.set_cons_succ]
          refine wpAnyJ_take0 (i := 10) (v := ?_) rfl (by kernel_rfl) (by kernel_rfl) (by kernel_rfl) (fun _ _ _ h => h) (by rfl) (Or.inl ⟨by rfl, ?_⟩) (by assumption) ?_
          rotate_left 1
          · intro w hSw; (try dsimp only at hSw); go_simp <;> (try with_reducible rfl)
          try simp only [Act.put, List.getElem_toArray, List.getElem_cons_succ, List.getElem_cons_zero, List.setIfInBounds_toArray, List.set_cons_zero, List.set_cons_succ]
          refine wpAnyJ_take0 (i := 11) (v := ?_) rfl (by kernel_rfl) (by kernel_rfl) (by kernel_rfl) (fun _ _ _ h => h) (by rfl) (Or.inl ⟨by rfl, ?_⟩) (by assumption) ?_
          rotate_left 1
          · intro w hSw; (try dsimp only at hSw); go_simp <;> (try with_reducible rfl)
          try simp only [Act.put, List.getElem_toArray, List.getElem_cons_succ, List.getElem_cons_zero, List.setIfInBounds_toArray, List.set_cons_zero, List.set_cons_succ]
          refine wpAnyJ_done (by kernel_rfl) ?_ _
          clear e0 e1 e2 j0 j1 j2 hHeld
          go_wp2_with fail
          go_meet
          exact csg_mid hZ hg7 hV hG hbC.out
        exact AllReadyJ.nil
      exact AllReadyJ.nil
    refine AllReadyJ.cons (o := _) rfl (fun Kq hKq => ?_) ?_
    · go_simp
      have hal := balloc X (.cells #[.slice none 0 0, .int .i64 0, .int .i64 0] 27)
      have hZ := Box.new X 27 [.slice none 0 0, .int .i64 0, .int .i64 0]
      change Box (X.alloc (.cells #[.slice none 0 0, .int .i64 0, .int .i64 0] 27)) _ _ _ at hZ
      have hg7 := hbC.out.size
      replace hM := seesB_of hM (Nat.le_refl _) hal
      replace hbC := Lib.hid (bgo hbC.out hal)
      clear hal
      generalize X.heap.size = g7 at hZ hg7 ⊢
      generalize X.alloc (.cells #[.slice none 0 0, .int .i64 0, .int .i64 0] 27) = X at *
      refine hKq.out _ _ ?_ (fun hHeld => ?_)
      · intro _; (try dsimp only); (first | exact K.out _ hbC.out | exact K.out _ (bdrew W2))
      clear hKq Kq
      try simp only [Act.put, List.getElem_toArray, List.getElem_cons_succ, List.getElem_cons_zero, List.setIfInBounds_toArray, List.set_cons_zero, List.set_cons_succ]
      refine wpAnyJ_ready (rs := [3]) (by kernel_rfl) (by simp) ?_
      refine AllReadyJ.cons (o := _) rfl (fun Kq hKq => ?_) ?_
      · go_simp
        go_at_call 69
        refine (hsn.out X _ hbC.out hM).mono ?_
        rintro e X ⟨vV, vG, rfl, hV, hG, hal⟩
        obtain ⟨AV, cV, rfl, -, -⟩ := hV.mk_
        obtain ⟨AG, cG, rfl, -, -⟩ := hG.mk_
        dsimp only at hV hG ⊢
        replace hZ := hZ.below hal
        replace hM := seesB_of hM (Nat.le_refl _) hal
        replace hbC := Lib.hid (bgo hbC.out hal)
        clear hal
        obtain ⟨e0, e1, e2, j0, j1, j2⟩ := box3_cells hZ
        go_wp2_with fail
        refine hKq.out _ _ ?_ (fun hHeld => ?_)
        · intro _; (try dsimp only); (first | exact K.out _ hbC.out | exact K.out _ (bdrew W2))
        clear hKq Kq
        try simp only [Act.put, List.getElem_toArray, List.getElem_cons_succ, List.getElem_cons_zero, List.setIfInBounds_toArray, List.set_cons_zero, List.set_cons_succ]
        refine wpAnyJ_take0 (i := 4) (v := ?_) rfl (by kernel_rfl) (by kernel_rfl) (by kernel_rfl) (fun _ _ _ h => h) (by rfl) (Or.inl ⟨by rfl, ?_⟩) (by assumption) ?_
        rotate_left 1
        · intro w hSw; (try dsimp only at hSw); go_simp <;> (try with_reducible rfl)
        try simp only [Act.put, List.getElem_toArray, List.getElem_cons_succ, List.getElem_cons_zero, List.setIfInBounds_toArray, List.set_cons_zero, List.set_cons_succ]
        refine wpAnyJ_take0 (i := 5) (v := ?_) rfl (by kernel_rfl) (by kernel_rfl) (by kernel_rfl) (fun _ _ _ h => h) (by rfl) (Or.inl ⟨by rfl, ?_⟩) (by assumption) ?_
        rotate_left 1
        · intro w hSw; (try dsimp only at hSw); go_simp <;> (try with_reducible rfl)
        try simp only [Act.put, List.getElem_toArray, List.getElem_cons_succ, List.getElem_cons_zero, List.setIfInBounds_toArray, List.set_cons_zero, List.set_cons_succ]
        refine wpAnyJ_take0 (i := 6) (v := ?_) rfl (by kernel_rfl) (by kernel_rfl) (by kernel_rfl) (fun _ _ _ h => h) (by rfl) (Or.inl ⟨by rfl, ?_⟩) (by assumption) ?_
        rotate_left 1
        · intro w hSw; (try dsimp only at hSw); go_simp <;> (try with_reducible rfl)
        try simp only [Act.put, List.getElem_toArray, List.getElem_cons_succ, List.getElem_cons_zero, List.setIfInBounds_toArray, List.set_cons_zero, List.set_cons_succ]
        refine wpAnyJ_take0 (i := 7) (v := ?_) rfl (by kernel_rfl) (by kernel_rfl) (by kernel_rfl) (fun _ _ _ h => h) (by rfl) (Or.inl ⟨by rfl, ?_⟩) (by assumption) ?_
        rotate_left 1
        · intro w hSw; (try dsimp only at hSw); go_simp <;> (try with_reducible rfl)
        try simp only [Act.put, List.getElem_toArray, List.getElem_cons_succ, List.getElem_cons_zero, List.setIfInBounds_toArray, List.set_cons_zero, List.set_cons_succ]
        refine wpAnyJ_ready (rs := [9]) (by kernel_rfl) (by simp) ?_
        refine AllReadyJ.cons (o := _) rfl (fun Kq hKq => ?_) ?_
        · go_simp
          refine hKq.out _ _ ?_ (fun hHeld => ?_)
          · intro hl; exact absurd hl (by decide)
          clear hKq Kq
          try simp only [Act.put, List.getElem_toArray, List.getElem_cons_succ, List.getElem_cons_zero, List.setIfInBounds_toArray, List.set_cons_zero, List.set_cons_succ]
          refine wpAnyJ_take0 (i := 10) (v := ?_) rfl (by kernel_rfl) (by kernel_rfl) (by kernel_rfl) (fun _ _ _ h => h) (by rfl) (Or.inl ⟨by rfl, ?_⟩) (by assumption) ?_
          rotate_left 1
          · intro w hSw; (try dsimp only at hSw); go_simp <;> (try with_reducible rfl)
          try simp only [Act.put, List.getElem_toArray, List.getElem_cons_succ, List.getElem_cons_zero, List.setIfInBounds_toArray, List.set_cons_zero, List.set_cons_succ]
          refine wpAnyJ_take0 (i := 11) (v := ?_) rfl (by kernel_rfl) (by kernel_rfl) (by kernel_rfl) (fun _ _ _ h => h) (by rfl) (Or.inl ⟨by rfl, ?_⟩) (by assumption) ?_
          rotate_left 1
          · intro w hSw; (try dsimp only at hSw); go_simp <;> (try with_reducible rfl)
          try simp only [Act.put, List.getElem_toArray, List.getElem_cons_succ, List.getElem_cons_zero, List.setIfInBounds_toArray, List.set_cons_zero, List.set_cons_succ]
          refine wpAnyJ_done (by kernel_rfl) ?_ _
          clear e0 e1 e2 j0 j1 j2 hHeld
          go_wp2_with fail
          go_meet
          exact csg_mid hZ hg7 hV hG hbC.out
        exact AllReadyJ.nil
      exact AllReadyJ.nil
    exact AllReadyJ.nil
  refine AllReadyJ.cons (o := _) rfl (fun Kq hKq => ?_) ?_
  · go_simp
    have hal := balloc X (.cells #[.slice none 0 0, .int .i64 0, .int .i64 0] 27)
    have hZ := Box.new X 27 [.slice none 0 0, .int .i64 0, .int .i64 0]
    change Box (X.alloc (.cells #[.slice none 0 0, .int .i64 0, .int .i64 0] 27)) _ _ _ at hZ
    have hg7 := hbC.out.size
    replace hbC := Lib.hid (bgo hbC.out hal)
    clear hal
    generalize X.heap.size = g7 at hZ hg7 ⊢
    generalize X.alloc (.cells #[.slice none 0 0, .int .i64 0, .int .i64 0] 27) = X at *
    refine hKq.out _ _ ?_ (fun hHeld => ?_)
    · intro _; (try dsimp only); (first | exact K.out _ hbC.out | exact K.out _ (bdrew W2))
    clear hKq Kq
    try simp only [Act.put, List.getElem_toArray, List.getElem_cons_succ, List.getElem_cons_zero, List.setIfInBounds_toArray, List.set_cons_zero, List.set_cons_succ]
    refine wpAnyJ_ready (rs := [2]) (by kernel_rfl) (by simp) ?_
    refine AllReadyJ.cons (o := _) rfl (fun Kq hKq => ?_) ?_
    · go_simp
      go_at_call 111
      refine (htx.out X hbC.out).mono ?_
      rintro e X ⟨vM, rfl, hM, hal⟩
      obtain ⟨AM, cM, rfl, -, -⟩ := hM.sees.mk_
      replace hM := hM.sees
      replace hZ := hZ.below hal
      replace hbC := Lib.hid (bgo hbC.out hal)
      clear hal
      go_wp2_with fail
      refine hKq.out _ _ ?_ (fun hHeld => ?_)
      · intro _; (try dsimp only); (first | exact K.out _ hbC.out | exact K.out _ (bdrew W2))
      clear hKq Kq
      try simp only [Act.put, List.getElem_toArray, List.getElem_cons_succ, List.getElem_cons_zero, List.setIfInBounds_toArray, List.set_cons_zero, List.set_cons_succ]
      refine wpAnyJ_ready (rs := [3]) (by kernel_rfl) (by simp) ?_
      refine AllReadyJ.cons (o := _) rfl (fun Kq hKq => ?_) ?_
      · go_simp
        go_at_call 69
        refine (hsn.out X _ hbC.out hM).mono ?_
        rintro e X ⟨vV, vG, rfl, hV, hG, hal⟩
        obtain ⟨AV, cV, rfl, -, -⟩ := hV.mk_
        obtain ⟨AG, cG, rfl, -, -⟩ := hG.mk_
        dsimp only at hV hG ⊢
        replace hZ := hZ.below hal
        replace hM := seesB_of hM (Nat.le_refl _) hal
        replace hbC := Lib.hid (bgo hbC.out hal)
        clear hal
        obtain ⟨e0, e1, e2, j0, j1, j2⟩ := box3_cells hZ
        go_wp2_with fail
        refine hKq.out _ _ ?_ (fun hHeld => ?_)
        · intro _; (try dsimp only); (first | exact K.out _ hbC.out | exact K.out _ (bdrew W2))
        clear hKq Kq
        try simp only [Act.put, List.getElem_toArray, List.getElem_cons_succ, List.getElem_cons_zero, List.setIfInBounds_toArray, List.set_cons_zero, List.set_cons_succ]
        refine wpAnyJ_take0 (i := 4) (v := ?_) rfl (by kernel_rfl) (by kernel_rfl) (by kernel_rfl) (fun _ _ _ h => h) (by rfl) (Or.inl ⟨by rfl, ?_⟩) (by assumption) ?_
        rotate_left 1
        · intro w hSw; (try dsimp only at hSw); go_simp <;> (try with_reducible rfl)
        try simp only [Act.put, List.getElem_toArray, List.getElem_cons_succ, List.getElem_cons_zero, List.setIfInBounds_toArray, List.set_cons_zero, List.set_cons_succ]
        refine wpAnyJ_take0 (i := 5) (v := ?_) rfl (by kernel_rfl) (by kernel_rfl) (by kernel_rfl) (fun _ _ _ h => h) (by rfl) (Or.inl ⟨by rfl, ?_⟩) (by assumption) ?_
        rotate_left 1
        · intro w hSw; (try dsimp only at hSw); go_simp <;> (try with_reducible rfl)
        try simp only [Act.put, List.getElem_toArray, List.getElem_cons_succ, List.getElem_cons_zero, List.setIfInBounds_toArray, List.set_cons_zero, List.set_cons_succ]
        refine wpAnyJ_take0 (i := 6) (v := ?_) rfl (by kernel_rfl) (by kernel_rfl) (by kernel_rfl) (fun _ _ _ h => h) (by rfl) (Or.inl ⟨by rfl, ?_⟩) (by assumption) ?_
        rotate_left 1
        · intro w hSw; (try dsimp only at hSw); go_simp <;> (try with_reducible rfl)
        try simp only [Act.put, List.getElem_toArray, List.getElem_cons_succ, List.getElem_cons_zero, List.setIfInBounds_toArray, List.set_cons_zero, List.set_cons_succ]
        refine wpAnyJ_take0 (i := 7) (v := ?_) rfl (by kernel_rfl) (by kernel_rfl) (by kernel_rfl) (fun _ _ _ h => h) (by rfl) (Or.inl ⟨by rfl, ?_⟩) (by assumption) ?_
        rotate_left 1
        · intro w hSw; (try dsimp only at hSw); go_simp <;> (try with_reducible rfl)
        try simp only [Act.put, List.getElem_toArray, List.getElem_cons_succ, List.getElem_cons_zero, List.setIfInBounds_toArray, List.set_cons_zero, List.set_cons_succ]
        refine wpAnyJ_ready (rs := [9]) (by kernel_rfl) (by simp) ?_
        refine AllReadyJ.cons (o := _) rfl (fun Kq hKq => ?_) ?_
        · go_simp
          refine hKq.out _ _ ?_ (fun hHeld => ?_)
          · intro hl; exact absurd hl (by decide)
          clear hKq Kq
          try simp only [Act.put, List.getElem_toArray, List.getElem_cons_succ, List.getElem_cons_zero, List.setIfInBounds_toArray, List.set_cons_zero, List.set_cons_succ]
          refine wpAnyJ_take0 (i := 10) (v := ?_) rfl (by kernel_rfl) (by kernel_rfl) (by kernel_rfl) (fun _ _ _ h => h) (by rfl) (Or.inl ⟨by rfl, ?_⟩) (by assumption) ?_
          rotate_left 1
          · intro w hSw; (try dsimp only at hSw); go_simp <;> (try with_reducible rfl)
          try simp only [Act.put, List.getElem_toArray, List.getElem_cons_succ, List.getElem_cons_zero, List.setIfInBounds_toArray, List.set_cons_zero, List.set_cons_succ]
          refine wpAnyJ_take0 (i := 11) (v := ?_) rfl (by kernel_rfl) (by kernel_rfl) (by kernel_rfl) (fun _ _ _ h => h) (by rfl) (Or.inl ⟨by rfl, ?_⟩) (by assumption) ?_
          rotate_left 1
          · intro w hSw; (try dsimp only at hSw); go_simp <;> (try with_reducible rfl)
          try simp only [Act.put, List.getElem_toArray, List.getElem_cons_succ, List.getElem_cons_zero, List.setIfInBounds_toArray, List.set_cons_zero, List.set_cons_succ]
          refine wpAnyJ_done (by kernel_rfl) ?_ _
          clear e0 e1 e2 j0 j1 j2 hHeld
          go_wp2_with fail
          go_meet
          exact csg_mid hZ hg7 hV hG hbC.out
        exact AllReadyJ.nil
      exact AllReadyJ.nil
    exact AllReadyJ.nil
  exact AllReadyJ.nil
 case rest =>
 obtain ⟨g7, AV, cV, AG, cG, rfl, rfl, rfl, b7, hg7, hV, hG, hb5⟩ := hcut
 obtain ⟨W4, rfl⟩ : ∃ W4 : World, W4 = wc := ⟨_, rfl⟩
 have hne47 : Hid (g4 ≠ g7) := Nat.ne_of_lt (Nat.lt_of_lt_of_le x4.out.lt hg7)
 have hne43 : Hid (g4 ≠ g3) := by have := hg4.out; show _ ≠ _; omega
 have hne37 : Hid (g3 ≠ g7) := Nat.ne_of_lt (Nat.lt_of_lt_of_le x33.out.lt hg7)
 have hne53 : Hid (g5 ≠ g3) := by have := hg4.out; have := hg5.out; show _ ≠ _; omega
 have hw3 : Hid (w.heap.size ≤ g3) := by have := hg3.out; have := hg2.out; show _ ≤ _; omega
 replace x4 := x4.out.below hb5
 replace x5 := x5.out.below hb5
 have x3 := x33.out.below hb5
 have sp4 := seesB_of sp2.out (Nat.le_refl _) hb5
 replace hbw := Lib.hid (bgo hbw.out hb5)
 clear htx hsn K hbC sp2 x33 hb5
 by_cases hE : E = 0
 · subst hE
   clear hz
   have x7 := b7
   obtain ⟨y0, y1, y2, y3, y4⟩ := box5_cells x3
   go_wp2_with fail
   refine (bclone_any _ _ p _ sp4 (Nat.le_refl _) (by have := hwp.out; omega)).mono ?_
   rintro e W5 ⟨vP, rfl, hP0, hal⟩
   obtain ⟨AP, cP, rfl, -, -⟩ := hP0.sees.mk_
   have hP := hP0.sees
   replace hG := seesB_of hG (Nat.le_refl _) hal
   replace hV := seesB_of hV (Nat.le_refl _) hal
   replace x3 := x3.below hal
   replace x4 := x4.below hal
   replace x5 := x5.below hal
   replace x7 := x7.below hal
   replace hbw := Lib.hid (bgo hbw.out hal)
   clear y0 y1 y2 y3 y4 hP0 hal sp4 b7
   obtain ⟨y0, y1, y2, y3, y4⟩ := box5_cells x3
   have j1 := x3.frozen 1
   have j4 := x3.frozen 4
   dsimp only
   go_wp2_with fail
   have c3 := Lib.hid (boxP2 x3 (.slice AP p.length cP) (.slice AG SG.length cG))
   have c4 := Lib.hid (offP2 x4 hne43.out (.slice AP p.length cP) (.slice AG SG.length cG))
   have c5 := Lib.hid (offP2 x5 hne53.out (.slice AP p.length cP) (.slice AG SG.length cG))
   have c7 := Lib.hid (offP2 x7 hne37.out.symm (.slice AP p.length cP) (.slice AG SG.length cG))
   have hP4 := Lib.hid (seesP2 x3 (noBL5 (NoB.st S0) (NoB.s Ap p.length cp) (NoB.i f) (NoB.i t) (NoB.s none 0 0)) (.slice AP p.length cP) (.slice AG SG.length cG) hP)
   have hG4 := Lib.hid (seesP2 x3 (noBL5 (NoB.st S0) (NoB.s Ap p.length cp) (NoB.i f) (NoB.i t) (NoB.s none 0 0)) (.slice AP p.length cP) (.slice AG SG.length cG) hG)
   have hV4 := Lib.hid (seesP2 x3 (noBL5 (NoB.st S0) (NoB.s Ap p.length cp) (NoB.i f) (NoB.i t) (NoB.s none 0 0)) (.slice AP p.length cP) (.slice AG SG.length cG) hV)
   replace hbw := Lib.hid ((hbw.out.setCell (p := ⟨g3, 1, none⟩) hw3.out (.slice AP p.length cP)).setCell (p := ⟨g3, 4, none⟩) hw3.out (.slice AG SG.length cG))
   clear y0 y1 y2 y3 y4 j1 j4 x3 x4 x5 x7 hP hG hV
   generalize (W5.setCell ⟨g3, 1, none⟩ (.slice AP p.length cP)).setCell ⟨g3, 4, none⟩ (.slice AG SG.length cG) = X0 at *
   obtain ⟨x3, x4, x5, x7⟩ := And.intro c3 (And.intro c4 (And.intro c5 c7))
   clear c3 c4 c5 c7
   have K : Hid (∀ W : World, Below X0.heap.size X0 W → W.cell? ⟨g7, 0, none⟩ = some (.slice AV sd1.length cV) ∧ W.cell? ⟨g7, 1, none⟩ = some (.int .i64 h1) ∧ W.cell? ⟨g7, 2, none⟩ = some (.int .i64 n1) ∧ W.cell? ⟨g3, 0, none⟩ = some (.string S0) ∧ W.cell? ⟨g3, 1, none⟩ = some (.slice AP p.length cP) ∧ W.cell? ⟨g3, 2, none⟩ = some (.int .i64 f) ∧ W.cell? ⟨g3, 3, none⟩ = some (.int .i64 t) ∧ W.cell? ⟨g3, 4, none⟩ = some (.slice AG SG.length cG)) := fun W hW => ⟨(x7.out.below hW).cell 0, (x7.out.below hW).cell 1, (x7.out.below hW).cell 2, box5_cells (x3.out.below hW)⟩
   have hbC := Lib.hid (bdrew X0)
   refine wp_region_J (fun W' : World => W'.cell? ⟨g7, 0, none⟩ = some (.slice AV sd1.length cV) ∧ W'.cell? ⟨g7, 1, none⟩ = some (.int .i64 h1) ∧ W'.cell? ⟨g7, 2, none⟩ = some (.int .i64 n1) ∧ W'.cell? ⟨g3, 0, none⟩ = some (.string S0) ∧ W'.cell? ⟨g3, 1, none⟩ = some (.slice AP p.length cP) ∧ W'.cell? ⟨g3, 2, none⟩ = some (.int .i64 f) ∧ W'.cell? ⟨g3, 3, none⟩ = some (.int .i64 t) ∧ W'.cell? ⟨g3, 4, none⟩ = some (.slice AG SG.length cG)) 3 (by kernel_rfl) ?_ (fun hHeld => ?_)
   · (try dsimp only); (first | exact K.out _ hbC.out | exact K.out _ (bdrew X0) | exact kS)
   generalize X0.drew = X at *
   have b4 := x4.out.below hbC.out
   have b5 := x5.out.below hbC.out
   have b7 := x7.out.below hbC.out
   have b3 := x3.out.below hbC.out
   have hG := seesB_of hG4.out (Nat.le_refl _) hbC.out
   have hV := seesB_of hV4.out (Nat.le_refl _) hbC.out
   have hP := seesB_of hP4.out (Nat.le_refl _) hbC.out
   obtain ⟨e0, e1, e2, j0, j1, j2⟩ := box3_cells b4
   refine wpAnyJ_take (i := 0) (v := ?_) rfl (by kernel_rfl) (by kernel_rfl) (by kernel_rfl) (fun _ _ _ h => h) (by rfl) rfl (by kernel_rfl) (by kernel_rfl) (Or.inl ⟨by rfl, ?_⟩) (by assumption) ?_
   rotate_left 1
   · intro w hSw; (try dsimp only at hSw); go_simp <;> (try with_reducible rfl)
   try simp only [Act.put, List.getElem_toArray, List.getElem_cons_succ, List.getElem_cons_zero, List.setIfInBounds_toArray, List.set_cons_zero, List.set_cons_succ]
   refine wpAnyJ_take (i := 1) (v := ?_) rfl (by kernel_rfl) (by kernel_rfl) (by kernel_rfl) (fun _ _ _ h => h) (by rfl) rfl (by kernel_rfl) (by kernel_rfl) (Or.inl ⟨by rfl, ?_⟩) (by assumption) ?_
   rotate_left 1
   · intro w hSw; (try dsimp only at hSw); go_simp <;> (try with_reducible rfl)
   try simp only [Act.put, List.getElem_toArray, List.getElem_cons_succ, List.getElem_cons_zero, List.setIfInBounds_toArray, List.set_cons_zero, List.set_cons_succ]
   refine wpAnyJ_ready (rs := [2]) (by kernel_rfl) (by simp) ?_
   refine AllReadyJ.cons (o := _) rfl (fun Kq hKq => ?_) ?_
   · go_simp
     have c4 := lset3 b4 (.slice AV sd1.length cV) (.int .i64 h1) (.int .i64 n1)
     have c5 := off3 b5 hne45.out (.slice AV sd1.length cV) (.int .i64 h1) (.int .i64 n1)
     have c7 := off3 b7 hne47.out (.slice AV sd1.length cV) (.int .i64 h1) (.int .i64 n1)
     have c3 := off3 b3 hne43.out (.slice AV sd1.length cV) (.int .i64 h1) (.int .i64 n1)
     have hP2 := sees_s3 b4 (noBL3' (NoB.s none 0 0) (NoB.i 0) (NoB.i 0)) (.slice AV sd1.length cV) (.int .i64 h1) (.int .i64 n1) hP
     have hG2 := sees_s3 b4 (noBL3' (NoB.s none 0 0) (NoB.i 0) (NoB.i 0)) (.slice AV sd1.length cV) (.int .i64 h1) (.int .i64 n1) hG
     have hV2 := sees_s3 b4 (noBL3' (NoB.s none 0 0) (NoB.i 0) (NoB.i 0)) (.slice AV sd1.length cV) (.int .i64 h1) (.int .i64 n1) hV
     have hb2 := Lib.hid (below_set3 (bgo hbw.out hbC.out) hw4.out (.slice AV sd1.length cV) (.int .i64 h1) (.int .i64 n1))
     clear e0 e1 e2 j0 j1 j2 b4 b5 b7 b3 hP hG hV
     generalize ((X.setCell ⟨g4, 0, none⟩ (.slice AV sd1.length cV)).setCell ⟨g4, 1, none⟩ (.int .i64 h1)).setCell ⟨g4, 2, none⟩ (.int .i64 n1) = Y at *
     have kS := (show Y.cell? ⟨g7, 0, none⟩ = some (.slice AV sd1.length cV) ∧ Y.cell? ⟨g7, 1, none⟩ = some (.int .i64 h1) ∧ Y.cell? ⟨g7, 2, none⟩ = some (.int .i64 n1) ∧ Y.cell? ⟨g3, 0, none⟩ = some (.string S0) ∧ Y.cell? ⟨g3, 1, none⟩ = some (.slice AP p.length cP) ∧ Y.cell? ⟨g3, 2, none⟩ = some (.int .i64 f) ∧ Y.cell? ⟨g3, 3, none⟩ = some (.int .i64 t) ∧ Y.cell? ⟨g3, 4, none⟩ = some (.slice AG SG.length cG) from ⟨c7.cell 0, c7.cell 1, c7.cell 2, box5_cells c3⟩)
     obtain ⟨e0, e1, e2, e3, e4⟩ := box5_cells c5
     have j0 := c5.frozen 0
     have j1 := c5.frozen 1
     have j2 := c5.frozen 2
     have j3 := c5.frozen 3
     have j4 := c5.frozen 4
     refine hKq.out _ _ ?_ (fun hHeld => ?_)
     · intro _; (try dsimp only); (first | exact K.out _ hbC.out | exact K.out _ (bdrew X0) | exact kS)
     clear hKq Kq
     try simp only [Act.put, List.getElem_toArray, List.getElem_cons_succ, List.getElem_cons_zero, List.setIfInBounds_toArray, List.set_cons_zero, List.set_cons_succ]
     refine wpAnyJ_ready (rs := [3]) (by kernel_rfl) (by simp) ?_
     refine AllReadyJ.cons (o := _) rfl (fun Kq hKq => ?_) ?_
     · go_simp
       refine hKq.out _ _ ?_ (fun hHeld => ?_)
       · intro hl; exact absurd hl (by decide)
       clear hKq Kq
       try simp only [Act.put, List.getElem_toArray, List.getElem_cons_succ, List.getElem_cons_zero, List.setIfInBounds_toArray, List.set_cons_zero, List.set_cons_succ]
       refine wpAnyJ_take0 (i := 4) (v := ?_) rfl (by kernel_rfl) (by kernel_rfl) (by kernel_rfl) (fun _ _ _ h => h) (by rfl) (Or.inl ⟨by rfl, ?_⟩) (by assumption) ?_
       rotate_left 1
       · intro w hSw; (try dsimp only at hSw); go_simp <;> (try with_reducible rfl)
       try simp only [Act.put, List.getElem_toArray, List.getElem_cons_succ, List.getElem_cons_zero, List.setIfInBounds_toArray, List.set_cons_zero, List.set_cons_succ]
       refine wpAnyJ_done (by kernel_rfl) ?_ _
       have d5 := set5 c5 (.string S0) (.slice AP p.length cP) (.int .i64 f) (.int .i64 t) (.slice AG SG.length cG)
       have d4 := off5 c4 hne54.out (.string S0) (.slice AP p.length cP) (.int .i64 f) (.int .i64 t) (.slice AG SG.length cG)
       have hP3 := sees_s5 c5 (noBL5 (NoB.st { data := #[] }) (NoB.s none 0 0) (NoB.i 0) (NoB.i 0) (NoB.s none 0 0)) (.string S0) (.slice AP p.length cP) (.int .i64 f) (.int .i64 t) (.slice AG SG.length cG) hP2
       have hG3 := sees_s5 c5 (noBL5 (NoB.st { data := #[] }) (NoB.s none 0 0) (NoB.i 0) (NoB.i 0) (NoB.s none 0 0)) (.string S0) (.slice AP p.length cP) (.int .i64 f) (.int .i64 t) (.slice AG SG.length cG) hG2
       have hV3 := sees_s5 c5 (noBL5 (NoB.st { data := #[] }) (NoB.s none 0 0) (NoB.i 0) (NoB.i 0) (NoB.s none 0 0)) (.string S0) (.slice AP p.length cP) (.int .i64 f) (.int .i64 t) (.slice AG SG.length cG) hV2
       have hb3 := below5 hb2.out hw5.out (.string S0) (.slice AP p.length cP) (.int .i64 f) (.int .i64 t) (.slice AG SG.length cG)
       clear e0 e1 e2 e3 e4 j0 j1 j2 j3 j4 kS hHeld c3 c4 c5 c7 hP2 hG2 hV2
       go_wp2_with fail
       generalize ((((Y.setCell ⟨g5, 0, none⟩ (.string S0)).setCell ⟨g5, 1, none⟩ (.slice AP p.length cP)).setCell ⟨g5, 2, none⟩ (.int .i64 f)).setCell ⟨g5, 3, none⟩ (.int .i64 t)).setCell ⟨g5, 4, none⟩ (.slice AG SG.length cG) = Z at *
       have z0 := d4.cell 0
       have z1 := d4.cell 1
       have z2 := d4.cell 2
       obtain ⟨z3, z4, z5, z6, z7⟩ := box5_cells d5
       simp only [List.getElem?_cons_zero, List.getElem?_cons_succ] at z0 z1 z2
       refine bodyPost_ret (v := .tuple #[.agg #[.slice AV sd1.length cV, .int .i64 h1, .int .i64 n1], .agg #[.string S0, .slice AP p.length cP, .int .i64 f, .int .i64 t, .slice AG SG.length cG], .int .i64 0]) (by simp [results, Tryz.results49, go_sem, z0, z1, z2, z3, z4, z5, z6, z7]) rfl ?_
       exact ⟨.slice AV sd1.length cV, .slice AP p.length cP, .slice AG SG.length cG, by rw [if_pos rfl, hS0.out], hV3, by rw [if_pos rfl]; exact hP3, hG3, hb3⟩
     exact AllReadyJ.nil
   exact AllReadyJ.nil
 · obtain ⟨rfl, q0, q1, q2, q3⟩ := hz.out hE
   clear hE
   have hE := Lib.hid (show ¬ (7 : Int) = 0 by omega)
   replace q0 := Lib.hid q0
   replace q1 := Lib.hid q1
   replace q2 := Lib.hid q2
   replace q3 := Lib.hid q3
   clear hz
   replace x3 := Lib.hid x3
   replace hV := Lib.hid hV
   replace hG := Lib.hid hG
   replace b7 := Lib.hid b7
   obtain ⟨e0, e1, e2, j0, j1, j2⟩ := box3_cells x4
   have c4 := lset3 x4 (.slice none 0 0) (.int .i64 0) (.int .i64 0)
   have c5 := off3 x5 hne45.out (.slice none 0 0) (.int .i64 0) (.int .i64 0)
   have hb3 := below_set3 hbw.out hw4.out (.slice none 0 0) (.int .i64 0) (.int .i64 0)
   obtain ⟨k0, k1, k2, k3, k4⟩ := box5_cells c5
   have l0 := c5.frozen 0
   have l1 := c5.frozen 1
   have l2 := c5.frozen 2
   have l3 := c5.frozen 3
   have l4 := c5.frozen 4
   have d5 := set5 c5 (.string { data := #[] }) (.slice none 0 0) (.int .i64 0) (.int .i64 0) (.slice none 0 0)
   have d4 := off5 c4 hne54.out (.string { data := #[] }) (.slice none 0 0) (.int .i64 0) (.int .i64 0) (.slice none 0 0)
   have hb4 := below5 hb3 hw5.out (.string { data := #[] }) (.slice none 0 0) (.int .i64 0) (.int .i64 0) (.slice none 0 0)
   (try dsimp only)
   go_wp2_with fail
   have z0 := d4.cell 0
   have z1 := d4.cell 1
   have z2 := d4.cell 2
   obtain ⟨z3, z4, z5, z6, z7⟩ := box5_cells d5
   simp only [List.getElem?_cons_zero, List.getElem?_cons_succ] at z0 z1 z2
   refine bodyPost_ret (v := .tuple #[.agg #[.slice none 0 0, .int .i64 0, .int .i64 0], .agg #[.string { data := #[] }, .slice none 0 0, .int .i64 0, .int .i64 0, .slice none 0 0], .int .i64 7]) (by simp [results, Tryz.results49, go_sem, z0, z1, z2, z3, z4, z5, z6, z7]) rfl ?_
   exact ⟨.slice none 0 0, .slice none 0 0, .slice none 0 0, by rw [if_neg hE.out, q1.out, q2.out], by rw [q0.out]; exact SeesB.nil _ _, by rw [if_neg hE.out]; exact SeesB.nil _ _, by rw [q3.out]; exact SeesB.nil _ _, hb4⟩
set_option maxRecDepth 100000 in
set_option maxHeartbeats 8000000 in
theorem crsgn_any (B : Nat) (u u2 : Value) (sd n p : Bs) (h n0 f t : Int) (w : World) (hu : SeesB w B u sd) (hu2 : SeesB w B u2 p) (hB : B ≤ w.heap.size) (hV1 : validI sd h n0 = true) (hF1 : formB n p.length f t = true) (r : Bs × Int × Int × Bs × Int) (hr : signAll sd h n0 (ctextB n p f t) = r) :
 Calls Tryz.prog 50 #[.agg #[u, .int .i64 h, .int .i64 n0], .agg #[.string (strB n), u2, .int .i64 f, .int .i64 t, .slice none 0 0]] w (CSgnP n p f t r w) := by
 obtain ⟨As, cs, rfl, -, -⟩ := hu.mk_
 obtain ⟨Ap, cp, rfl, -, -⟩ := hu2.mk_
 have hvd := fun W hW => rsvalid_any W.heap.size (.slice As sd.length cs) sd h n0 W hW
 have hfo := fun W => crformed_any n Ap p.length cp none 0 0 f t W
 rw [hV1] at hvd
 obtain ⟨f1, f2, f3, f4⟩ := form_parts hF1
 rw [hF1] at hfo
 have hm := ctext_len n p f t f2 f3
 have htx0 := fun (W : World) (hW : SeesB W W.heap.size (.slice Ap p.length cp) p) => crtext_any W.heap.size (.slice Ap p.length cp) n p f t none 0 0 W hW (Nat.le_refl _) (by omega) (by omega)
 have hsn0 := fun (W : World) (v : Value) (hW : SeesB W W.heap.size (.slice As sd.length cs) sd) (hv : SeesB W W.heap.size v (ctextB n p f t)) => rsign_all W.heap.size (.slice As sd.length cs) v sd (ctextB n p f t) h n0 W hW hv (Nat.le_refl _) (by omega)
 have hM0 : tCert ++ putB 2 n.length ++ n ++ p ++ spanB f t = ctextB n p f t := rfl
 rw [hM0] at htx0
 rw [hr] at hsn0
 unfold SignPost at hsn0
 obtain ⟨sd1, h1, n1, SG, E⟩ := r
 dsimp only at hsn0
 generalize hMM : ctextB n p f t = M at *
 have hS0 := Lib.hid (Eq.refl (strB n))
 generalize hS1 : strB n = S0 at *
 replace hS0 : Hid (strB n = S0) := hS1
 have hwp := Lib.hid f3
 have hz : E ≠ 0 → E = 7 ∧ sd1 = [] ∧ h1 = 0 ∧ n1 = 0 ∧ SG = [] := signAll_err hr hV1
 replace hz := Lib.hid hz
 clear hS1 hM0 hMM hr f1 f2 f3 f4 hm hV1 hF1
 have b1 := balloc w (.cells #[.slice As sd.length cs, .int .i64 h, .int .i64 n0] 27)
 have b2 := balloc (w.alloc (.cells #[.slice As sd.length cs, .int .i64 h, .int .i64 n0] 27)) (.cells #[.string S0, .slice Ap p.length cp, .int .i64 f, .int .i64 t, .slice none 0 0] 70)
 have b3 := balloc ((w.alloc (.cells #[.slice As sd.length cs, .int .i64 h, .int .i64 n0] 27)).alloc (.cells #[.string S0, .slice Ap p.length cp, .int .i64 f, .int .i64 t, .slice none 0 0] 70)) (.cells #[.slice none 0 0, .int .i64 0, .int .i64 0] 27)
 have b4 := balloc (((w.alloc (.cells #[.slice As sd.length cs, .int .i64 h, .int .i64 n0] 27)).alloc (.cells #[.string S0, .slice Ap p.length cp, .int .i64 f, .int .i64 t, .slice none 0 0] 70)).alloc (.cells #[.slice none 0 0, .int .i64 0, .int .i64 0] 27)) (.cells #[.string { data := #[] }, .slice none 0 0, .int .i64 0, .int .i64 0, .slice none 0 0] 70)
 have hbw0 := bgo (bgo (bgo b1 b2) b3) b4
 have x2 := (((Box.new w 27 [.slice As sd.length cs, .int .i64 h, .int .i64 n0]).below b2).below b3).below b4
 have x3 := ((Box.new (w.alloc (.cells #[.slice As sd.length cs, .int .i64 h, .int .i64 n0] 27)) 70 [.string S0, .slice Ap p.length cp, .int .i64 f, .int .i64 t, .slice none 0 0]).below b3).below b4
 have x4 := (Box.new ((w.alloc (.cells #[.slice As sd.length cs, .int .i64 h, .int .i64 n0] 27)).alloc (.cells #[.string S0, .slice Ap p.length cp, .int .i64 f, .int .i64 t, .slice none 0 0] 70)) 27 [.slice none 0 0, .int .i64 0, .int .i64 0]).below b4
 have x5 := Box.new (((w.alloc (.cells #[.slice As sd.length cs, .int .i64 h, .int .i64 n0] 27)).alloc (.cells #[.string S0, .slice Ap p.length cp, .int .i64 f, .int .i64 t, .slice none 0 0] 70)).alloc (.cells #[.slice none 0 0, .int .i64 0, .int .i64 0] 27)) 70 [.string { data := #[] }, .slice none 0 0, .int .i64 0, .int .i64 0, .slice none 0 0]
 rw [World.size_alloc] at x3
 rw [World.size_alloc, World.size_alloc] at x4
 rw [World.size_alloc, World.size_alloc, World.size_alloc] at x5
 change Box ((((w.alloc (.cells #[.slice As sd.length cs, .int .i64 h, .int .i64 n0] 27)).alloc (.cells #[.string S0, .slice Ap p.length cp, .int .i64 f, .int .i64 t, .slice none 0 0] 70)).alloc (.cells #[.slice none 0 0, .int .i64 0, .int .i64 0] 27)).alloc (.cells #[.string { data := #[] }, .slice none 0 0, .int .i64 0, .int .i64 0, .slice none 0 0] 70)) _ _ _ at x2 x3
 change Box ((((w.alloc (.cells #[.slice As sd.length cs, .int .i64 h, .int .i64 n0] 27)).alloc (.cells #[.string S0, .slice Ap p.length cp, .int .i64 f, .int .i64 t, .slice none 0 0] 70)).alloc (.cells #[.slice none 0 0, .int .i64 0, .int .i64 0] 27)).alloc (.cells #[.string { data := #[] }, .slice none 0 0, .int .i64 0, .int .i64 0, .slice none 0 0] 70)) _ _ _ at x4 x5
 change Below _ w ((((w.alloc (.cells #[.slice As sd.length cs, .int .i64 h, .int .i64 n0] 27)).alloc (.cells #[.string S0, .slice Ap p.length cp, .int .i64 f, .int .i64 t, .slice none 0 0] 70)).alloc (.cells #[.slice none 0 0, .int .i64 0, .int .i64 0] 27)).alloc (.cells #[.string { data := #[] }, .slice none 0 0, .int .i64 0, .int .i64 0, .slice none 0 0] 70)) at hbw0
 have ss := seesB_of hu hB hbw0
 have sp := seesB_of hu2 hB hbw0
 clear b1 b2 b3 b4 hu hu2 hB
 go_enter Tryz.func50, Tryz.ntmps50
 go_upto_region 1 with (fail)
 generalize (((w.alloc (.cells #[.slice As sd.length cs, .int .i64 h, .int .i64 n0] 27)).alloc (.cells #[.string S0, .slice Ap p.length cp, .int .i64 f, .int .i64 t, .slice none 0 0] 70)).alloc (.cells #[.slice none 0 0, .int .i64 0, .int .i64 0] 27)).alloc (.cells #[.string { data := #[] }, .slice none 0 0, .int .i64 0, .int .i64 0, .slice none 0 0] 70) = W0 at *
 obtain ⟨g2, hg2⟩ : ∃ x, x = w.heap.size := ⟨_, rfl⟩
 have hbw : Hid (Below w.heap.size w W0) := hbw0
 rw [← hg2] at x2 x3 x4 x5 ⊢
 generalize hg3 : g2 + 1 = g3 at *
 generalize hg4 : g3 + 1 = g4 at *
 generalize hg5 : g4 + 1 = g5 at *
 have hw4 : Hid (w.heap.size ≤ g4) := by show _ ≤ _; omega
 have hw5 : Hid (w.heap.size ≤ g5) := by show _ ≤ _; omega
 have hne45 : Hid (g4 ≠ g5) := by show _ ≠ _; omega
 have hne54 : Hid (g5 ≠ g4) := by show _ ≠ _; omega
 replace hg2 := Lib.hid hg2
 replace hg3 := Lib.hid hg3
 replace hg4 := Lib.hid hg4
 replace hg5 := Lib.hid hg5
 obtain ⟨y0, y1, y2, -, -, -⟩ := box3_cells x2
 have hv1 := Lib.hid (hvd W0 ss)
 clear hbw0 hvd
 go_wp2_with fail
 refine hv1.out.mono ?_
 rintro e W1 ⟨rfl, hb1⟩
 replace x2 := x2.below hb1
 replace x3 := x3.below hb1
 replace x4 := x4.below hb1
 replace x5 := x5.below hb1
 replace hbw := Lib.hid (bgo hbw.out hb1)
 replace ss := seesB_of ss (Nat.le_refl _) hb1
 replace sp := seesB_of sp (Nat.le_refl _) hb1
 clear hv1 y0 y1 y2 hb1
 obtain ⟨y0, y1, y2, y3, y4⟩ := box5_cells x3
 replace hfo := Lib.hid hfo
 dsimp only
 go_wp2_with fail
 refine (hfo.out _).mono ?_
 rintro e W2 ⟨rfl, hb1⟩
 replace x2 := x2.below hb1
 replace x3 := x3.below hb1
 replace x4 := x4.below hb1
 replace x5 := x5.below hb1
 replace hbw := Lib.hid (bgo hbw.out hb1)
 replace ss := seesB_of ss (Nat.le_refl _) hb1
 replace sp := seesB_of sp (Nat.le_refl _) hb1
 clear hfo y0 y1 y2 y3 y4 hb1
 have htx := Lib.hid (fun W (hW : Below W2.heap.size W2 W) => htx0 W (seesB_of sp (Nat.le_refl _) hW))
 have hsn := Lib.hid (fun W v (hW : Below W2.heap.size W2 W) (hv : SeesB W W.heap.size v M) => hsn0 W v (seesB_of ss (Nat.le_refl _) hW) hv)
 have K : Hid (∀ W : World, Below W2.heap.size W2 W → W.cell? ⟨g2, 0, none⟩ = some (.slice As sd.length cs) ∧ W.cell? ⟨g2, 1, none⟩ = some (.int .i64 h) ∧ W.cell? ⟨g2, 2, none⟩ = some (.int .i64 n0) ∧ W.cell? ⟨g3, 0, none⟩ = some (.string S0) ∧ W.cell? ⟨g3, 1, none⟩ = some (.slice Ap p.length cp) ∧ W.cell? ⟨g3, 2, none⟩ = some (.int .i64 f) ∧ W.cell? ⟨g3, 3, none⟩ = some (.int .i64 t) ∧ W.cell? ⟨g3, 4, none⟩ = some (.slice none 0 0)) := fun W hW => by
  obtain ⟨a0, a1, a2, -, -, -⟩ := box3_cells (x2.below hW)
  obtain ⟨c0, c1, c2, c3, c4⟩ := box5_cells (x3.below hW)
  exact ⟨a0, a1, a2, c0, c1, c2, c3, c4⟩
 have hbC := Lib.hid (bdrew W2)
 have sp2 := Lib.hid sp
 have x33 := Lib.hid x3
 replace x4 := Lib.hid x4
 replace x5 := Lib.hid x5
 clear htx0 hsn0 ss sp x2 x3
 dsimp only
 go_wp2_with fail
 go_cut [7, 8, 9] (fun v7 v8 v9 W => CsgM W2 sd1 h1 n1 SG E v7 v8 v9 W)
 case first =>
  refine wp_region_J (fun W' : World => W'.cell? ⟨g2, 0, none⟩ = some (.slice As sd.length cs) ∧ W'.cell? ⟨g2, 1, none⟩ = some (.int .i64 h) ∧ W'.cell? ⟨g2, 2, none⟩ = some (.int .i64 n0) ∧ W'.cell? ⟨g3, 0, none⟩ = some (.string S0) ∧ W'.cell? ⟨g3, 1, none⟩ = some (.slice Ap p.length cp) ∧ W'.cell? ⟨g3, 2, none⟩ = some (.int .i64 f) ∧ W'.cell? ⟨g3, 3, none⟩ = some (.int .i64 t) ∧ W'.cell? ⟨g3, 4, none⟩ = some (.slice none 0 0)) 9 (by kernel_rfl) ?_ (fun hHeld => ?_)
  · (try dsimp only); (first | exact K.out _ hbC.out | exact K.out _ (bdrew W2))
  generalize W2.drew = X at *
  refine wpAnyJ_take (i := 0) (v := ?_) rfl (by kernel_rfl) (by kernel_rfl) (by kernel_rfl) (fun _ _ _ h => h) (by rfl) rfl (by kernel_rfl) (by kernel_rfl) (Or.inl ⟨by rfl, ?_⟩) (by assumption) ?_
  rotate_left 1
  · intro w hSw; (try dsimp only at hSw); go_simp <;> (try with_reducible rfl)
  try simp only [Act.put, List.getElem_toArray, List.getElem_cons_succ, List.getElem_cons_zero, List.setIfInBounds_toArray, List.set_cons_zero, List.set_cons_succ]
  refine wpAnyJ_take (i := 1) (v := ?_) rfl (by kernel_rfl) (by kernel_rfl) (by kernel_rfl) (fun _ _ _ h => h) (by rfl) rfl (by kernel_rfl) (by kernel_rfl) (Or.inl ⟨by rfl, ?_⟩) (by assumption) ?_
  rotate_left 1
  · intro w hSw; (try dsimp only at hSw); go_simp <;> (try with_reducible rfl)
  try simp only [Act.put, List.getElem_toArray, List.getElem_cons_succ, List.getElem_cons_zero, List.setIfInBounds_toArray, List.set_cons_zero, List.set_cons_succ]
  refine wpAnyJ_ready (rs := [2, 8]) (by kernel_rfl) (by simp) ?_
  refine AllReadyJ.cons (o := _) rfl (fun Kq hKq => ?_) ?_
  · go_simp
    go_at_call 115
    refine (htx.out X hbC.out).mono ?_
    rintro e X ⟨vM, rfl, hM, hal⟩
    obtain ⟨AM, cM, rfl, -, -⟩ := hM.sees.mk_
    replace hM := hM.sees
    replace hbC := Lib.hid (bgo hbC.out hal)
    clear hal
    go_wp2_with fail
    refine hKq.out _ _ ?_ (fun hHeld => ?_)
    · intro _; (try dsimp only); (first | exact K.out _ hbC.out | exact K.out _ (bdrew W2))
    clear hKq Kq
    try simp only [Act.put, List.getElem_toArray, List.getElem_cons_succ, List.getElem_cons_zero, List.setIfInBounds_toArray, List.set_cons_zero, List.set_cons_succ]
    refine wpAnyJ_ready (rs := [3, 8]) (by kernel_rfl) (by simp) ?_
    refine AllReadyJ.cons (o := _) rfl (fun Kq hKq => ?_) ?_
    · go_simp
      go_at_call 114
      refine (hsn.out X _ hbC.out hM).mono ?_
      rintro e X ⟨vV, vG, rfl, hV, hG, hal⟩
      obtain ⟨AV, cV, rfl, -, -⟩ := hV.mk_
      obtain ⟨AG, cG, rfl, -, -⟩ := hG.mk_
      dsimp only at hV hG ⊢
      replace hM := seesB_of hM (Nat.le_refl _) hal
      replace hbC := Lib.hid (bgo hbC.out hal)
      clear hal
      go_wp2_with fail
      refine hKq.out _ _ ?_ (fun hHeld => ?_)
      · intro _; (try dsimp only); (first | exact K.out _ hbC.out | exact K.out _ (bdrew W2))
      clear hKq Kq
      try simp only [Act.put, List.getElem_toArray, List.getElem_cons_succ, List.getElem_cons_zero, List.setIfInBounds_toArray, List.set_cons_zero, List.set_cons_succ]
      refine wpAnyJ_take0 (i := 4) (v := ?_) rfl (by kernel_rfl) (by kernel_rfl) (by kernel_rfl) (fun _ _ _ h => h) (by rfl) (Or.inl ⟨by rfl, ?_⟩) (by assumption) ?_
      rotate_left 1
      · intro w hSw; (try dsimp only at hSw); go_simp <;> (try with_reducible rfl)
      try simp only [Act.put, List.getElem_toArray, List.getElem_cons_succ, List.getElem_cons_zero, List.setIfInBounds_toArray, List.set_cons_zero, List.set_cons_succ]
      refine wpAnyJ_take0 (i := 5) (v := ?_) rfl (by kernel_rfl) (by kernel_rfl) (by kernel_rfl) (fun _ _ _ h => h) (by rfl) (Or.inl ⟨by rfl, ?_⟩) (by assumption) ?_
      rotate_left 1
      · intro w hSw; (try dsimp only at hSw); go_simp <;> (try with_reducible rfl)
      try simp only [Act.put, List.getElem_toArray, List.getElem_cons_succ, List.getElem_cons_zero, List.setIfInBounds_toArray, List.set_cons_zero, List.set_cons_succ]
      refine wpAnyJ_take0 (i := 6) (v := ?_) rfl (by kernel_rfl) (by kernel_rfl) (by kernel_rfl) (fun _ _ _ h => h) (by rfl) (Or.inl ⟨by rfl, ?_⟩) (by assumption) ?_
      rotate_left 1
      · intro w hSw; (try dsimp only at hSw); go_simp <;> (try with_reducible rfl)
      try simp only [Act.put, List.getElem_toArray, List.getElem_cons_succ, List.getElem_cons_zero, List.setIfInBounds_toArray, List.set_cons_zero, List.set_cons_succ]
      refine wpAnyJ_take0 (i := 7) (v := ?_) rfl (by kernel_rfl) (by kernel_rfl) (by kernel_rfl) (fun _ _ _ h => h) (by rfl) (Or.inl ⟨by rfl, ?_⟩) (by assumption) ?_
      rotate_left 1
      · intro w hSw; (try dsimp only at hSw); go_simp <;> (try with_reducible rfl)
      try simp only [Act.put, List.getElem_toArray, List.getElem_cons_succ, List.getElem_cons_zero, List.setIfInBounds_toArray, List.set_cons_zero, List.set_cons_succ]
      refine wpAnyJ_ready (rs := [8]) (by kernel_rfl) (by simp) ?_
      refine AllReadyJ.cons (o := _) rfl (fun Kq hKq => ?_) ?_
      · go_simp
        have hal := balloc X (.cells #[.slice none 0 0, .int .i64 0, .int .i64 0] 27)
        have hZ := Box.new X 27 [.slice none 0 0, .int .i64 0, .int .i64 0]
        change Box (X.alloc (.cells #[.slice none 0 0, .int .i64 0, .int .i64 0] 27)) _ _ _ at hZ
        have hg7 := hbC.out.size
        replace hV := seesB_of hV (Nat.le_refl _) hal
        replace hG := seesB_of hG (Nat.le_refl _) hal
        replace hbC := Lib.hid (bgo hbC.out hal)
        clear hal
        generalize X.heap.size = g7 at hZ hg7 ⊢
        generalize X.alloc (.cells #[.slice none 0 0, .int .i64 0, .int .i64 0] 27) = X at *
        obtain ⟨e0, e1, e2, j0, j1, j2⟩ := box3_cells hZ
        refine hKq.out _ _ ?_ (fun hHeld => ?_)
        · intro _; (try dsimp only); (first | exact K.out _ hbC.out | exact K.out _ (bdrew W2))
        clear hKq Kq
        try simp only [Act.put, List.getElem_toArray, List.getElem_cons_succ, List.getElem_cons_zero, List.setIfInBounds_toArray, List.set_cons_zero, List.set_cons_succ]
        refine wpAnyJ_ready (rs := [9]) (by kernel_rfl) (by simp) ?_
        refine AllReadyJ.cons (o := _) rfl (fun Kq hKq => ?_) ?_
        · go_simp
          refine hKq.out _ _ ?_ (fun hHeld => ?_)
          · intro hl; exact absurd hl (by decide)
          clear hKq Kq
          try simp only [Act.put, List.getElem_toArray, List.getElem_cons_succ, List.getElem_cons_zero, List.setIfInBounds_toArray, List.set_cons_zero, List.set_cons_succ]
          refine wpAnyJ_take0 (i := 10) (v := ?_) rfl (by kernel_rfl) (by kernel_rfl) (by kernel_rfl) (fun _ _ _ h => h) (by rfl) (Or.inl ⟨by rfl, ?_⟩) (by assumption) ?_
          rotate_left 1
          · intro w hSw; (try dsimp only at hSw); go_simp <;> (try with_reducible rfl)
          try simp only [Act.put, List.getElem_toArray, List.getElem_cons_succ, List.getElem_cons_zero, List.setIfInBounds_toArray, List.set_cons_zero, List.set_cons_succ]
          refine wpAnyJ_take0 (i := 11) (v := ?_) rfl (by kernel_rfl) (by kernel_rfl) (by kernel_rfl) (fun _ _ _ h => h) (by rfl) (Or.inl ⟨by rfl, ?_⟩) (by assumption) ?_
          rotate_left 1
          · intro w hSw; (try dsimp only at hSw); go_simp <;> (try with_reducible rfl)
          try simp only [Act.put, List.getElem_toArray, List.getElem_cons_succ, List.getElem_cons_zero, List.setIfInBounds_toArray, List.set_cons_zero, List.set_cons_succ]
          refine wpAnyJ_done (by kernel_rfl) ?_ _
          clear e0 e1 e2 j0 j1 j2 hHeld
          go_wp2_with fail
          go_meet
          exact csg_mid hZ hg7 hV hG hbC.out
        exact AllReadyJ.nil
      exact AllReadyJ.nil
    refine AllReadyJ.cons (o := _) rfl (fun Kq hKq => ?_) ?_
    · go_simp
      have hal := balloc X (.cells #[.slice none 0 0, .int .i64 0, .int .i64 0] 27)
      have hZ := Box.new X 27 [.slice none 0 0, .int .i64 0, .int .i64 0]
      change Box (X.alloc (.cells #[.slice none 0 0, .int .i64 0, .int .i64 0] 27)) _ _ _ at hZ
      have hg7 := hbC.out.size
      replace hM := seesB_of hM (Nat.le_refl _) hal
      replace hbC := Lib.hid (bgo hbC.out hal)
      clear hal
      generalize X.heap.size = g7 at hZ hg7 ⊢
      generalize X.alloc (.cells #[.slice none 0 0, .int .i64 0, .int .i64 0] 27) = X at *
      refine hKq.out _ _ ?_ (fun hHeld => ?_)
      · intro _; (try dsimp only); (first | exact K.out _ hbC.out | exact K.out _ (bdrew W2))
      clear hKq Kq
      try simp only [Act.put, List.getElem_toArray, List.getElem_cons_succ, List.getElem_cons_zero, List.setIfInBounds_toArray, List.set_cons_zero, List.set_cons_succ]
      refine wpAnyJ_ready (rs := [3]) (by kernel_rfl) (by simp) ?_
      refine AllReadyJ.cons (o := _) rfl (fun Kq hKq => ?_) ?_
      · go_simp
        go_at_call 114
        refine (hsn.out X _ hbC.out hM).mono ?_
        rintro e X ⟨vV, vG, rfl, hV, hG, hal⟩
        obtain ⟨AV, cV, rfl, -, -⟩ := hV.mk_
        obtain ⟨AG, cG, rfl, -, -⟩ := hG.mk_
        dsimp only at hV hG ⊢
        replace hZ := hZ.below hal
        replace hM := seesB_of hM (Nat.le_refl _) hal
        replace hbC := Lib.hid (bgo hbC.out hal)
        clear hal
        obtain ⟨e0, e1, e2, j0, j1, j2⟩ := box3_cells hZ
        go_wp2_with fail
        refine hKq.out _ _ ?_ (fun hHeld => ?_)
        · intro _; (try dsimp only); (first | exact K.out _ hbC.out | exact K.out _ (bdrew W2))
        clear hKq Kq
        try simp only [Act.put, List.getElem_toArray, List.getElem_cons_succ, List.getElem_cons_zero, List.setIfInBounds_toArray, List.set_cons_zero, List.set_cons_succ]
        refine wpAnyJ_take0 (i := 4) (v := ?_) rfl (by kernel_rfl) (by kernel_rfl) (by kernel_rfl) (fun _ _ _ h => h) (by rfl) (Or.inl ⟨by rfl, ?_⟩) (by assumption) ?_
        rotate_left 1
        · intro w hSw; (try dsimp only at hSw); go_simp <;> (try with_reducible rfl)
        try simp only [Act.put, List.getElem_toArray, List.getElem_cons_succ, List.getElem_cons_zero, List.setIfInBounds_toArray, List.set_cons_zero, List.set_cons_succ]
        refine wpAnyJ_take0 (i := 5) (v := ?_) rfl (by kernel_rfl) (by kernel_rfl) (by kernel_rfl) (fun _ _ _ h => h) (by rfl) (Or.inl ⟨by rfl, ?_⟩) (by assumption) ?_
        rotate_left 1
        · intro w hSw; (try dsimp only at hSw); go_simp <;> (try with_reducible rfl)
        try simp only [Act.put, List.getElem_toArray, List.getElem_cons_succ, List.getElem_cons_zero, List.setIfInBounds_toArray, List.set_cons_zero, List.set_cons_succ]
        refine wpAnyJ_take0 (i := 6) (v := ?_) rfl (by kernel_rfl) (by kernel_rfl) (by kernel_rfl) (fun _ _ _ h => h) (by rfl) (Or.inl ⟨by rfl, ?_⟩) (by assumption) ?_
        rotate_left 1
        · intro w hSw; (try dsimp only at hSw); go_simp <;> (try with_reducible rfl)
        try simp only [Act.put, List.getElem_toArray, List.getElem_cons_succ, List.getElem_cons_zero, List.setIfInBounds_toArray, List.set_cons_zero, List.set_cons_succ]
        refine wpAnyJ_take0 (i := 7) (v := ?_) rfl (by kernel_rfl) (by kernel_rfl) (by kernel_rfl) (fun _ _ _ h => h) (by rfl) (Or.inl ⟨by rfl, ?_⟩) (by assumption) ?_
        rotate_left 1
        · intro w hSw; (try dsimp only at hSw); go_simp <;> (try with_reducible rfl)
        try simp only [Act.put, List.getElem_toArray, List.getElem_cons_succ, List.getElem_cons_zero, List.setIfInBounds_toArray, List.set_cons_zero, List.set_cons_succ]
        refine wpAnyJ_ready (rs := [9]) (by kernel_rfl) (by simp) ?_
        refine AllReadyJ.cons (o := _) rfl (fun Kq hKq => ?_) ?_
        · go_simp
          refine hKq.out _ _ ?_ (fun hHeld => ?_)
          · intro hl; exact absurd hl (by decide)
          clear hKq Kq
          try simp only [Act.put, List.getElem_toArray, List.getElem_cons_succ, List.getElem_cons_zero, List.setIfInBounds_toArray, List.set_cons_zero, List.set_cons_succ]
          refine wpAnyJ_take0 (i := 10) (v := ?_) rfl (by kernel_rfl) (by kernel_rfl) (by kernel_rfl) (fun _ _ _ h => h) (by rfl) (Or.inl ⟨by rfl, ?_⟩) (by assumption) ?_
          rotate_left 1
          · intro w hSw; (try dsimp only at hSw); go_simp <;> (try with_reducible rfl)
          try simp only [Act.put, List.getElem_toArray, List.getElem_cons_succ, List.getElem_cons_zero, List.setIfInBounds_toArray, List.set_cons_zero, List.set_cons_succ]
          refine wpAnyJ_take0 (i := 11) (v := ?_) rfl (by kernel_rfl) (by kernel_rfl) (by kernel_rfl) (fun _ _ _ h => h) (by rfl) (Or.inl ⟨by rfl, ?_⟩) (by assumption) ?_
          rotate_left 1
          · intro w hSw; (try dsimp only at hSw); go_simp <;> (try with_reducible rfl)
          try simp only [Act.put, List.getElem_toArray, List.getElem_cons_succ, List.getElem_cons_zero, List.setIfInBounds_toArray, List.set_cons_zero, List.set_cons_succ]
          refine wpAnyJ_done (by kernel_rfl) ?_ _
          clear e0 e1 e2 j0 j1 j2 hHeld
          go_wp2_with fail
          go_meet
          exact csg_mid hZ hg7 hV hG hbC.out
        exact AllReadyJ.nil
      exact AllReadyJ.nil
    exact AllReadyJ.nil
  refine AllReadyJ.cons (o := _) rfl (fun Kq hKq => ?_) ?_
  · go_simp
    have hal := balloc X (.cells #[.slice none 0 0, .int .i64 0, .int .i64 0] 27)
    have hZ := Box.new X 27 [.slice none 0 0, .int .i64 0, .int .i64 0]
    change Box (X.alloc (.cells #[.slice none 0 0, .int .i64 0, .int .i64 0] 27)) _ _ _ at hZ
    have hg7 := hbC.out.size
    replace hbC := Lib.hid (bgo hbC.out hal)
    clear hal
    generalize X.heap.size = g7 at hZ hg7 ⊢
    generalize X.alloc (.cells #[.slice none 0 0, .int .i64 0, .int .i64 0] 27) = X at *
    refine hKq.out _ _ ?_ (fun hHeld => ?_)
    · intro _; (try dsimp only); (first | exact K.out _ hbC.out | exact K.out _ (bdrew W2))
    clear hKq Kq
    try simp only [Act.put, List.getElem_toArray, List.getElem_cons_succ, List.getElem_cons_zero, List.setIfInBounds_toArray, List.set_cons_zero, List.set_cons_succ]
    refine wpAnyJ_ready (rs := [2]) (by kernel_rfl) (by simp) ?_
    refine AllReadyJ.cons (o := _) rfl (fun Kq hKq => ?_) ?_
    · go_simp
      go_at_call 115
      refine (htx.out X hbC.out).mono ?_
      rintro e X ⟨vM, rfl, hM, hal⟩
      obtain ⟨AM, cM, rfl, -, -⟩ := hM.sees.mk_
      replace hM := hM.sees
      replace hZ := hZ.below hal
      replace hbC := Lib.hid (bgo hbC.out hal)
      clear hal
      go_wp2_with fail
      refine hKq.out _ _ ?_ (fun hHeld => ?_)
      · intro _; (try dsimp only); (first | exact K.out _ hbC.out | exact K.out _ (bdrew W2))
      clear hKq Kq
      try simp only [Act.put, List.getElem_toArray, List.getElem_cons_succ, List.getElem_cons_zero, List.setIfInBounds_toArray, List.set_cons_zero, List.set_cons_succ]
      refine wpAnyJ_ready (rs := [3]) (by kernel_rfl) (by simp) ?_
      refine AllReadyJ.cons (o := _) rfl (fun Kq hKq => ?_) ?_
      · go_simp
        go_at_call 114
        refine (hsn.out X _ hbC.out hM).mono ?_
        rintro e X ⟨vV, vG, rfl, hV, hG, hal⟩
        obtain ⟨AV, cV, rfl, -, -⟩ := hV.mk_
        obtain ⟨AG, cG, rfl, -, -⟩ := hG.mk_
        dsimp only at hV hG ⊢
        replace hZ := hZ.below hal
        replace hM := seesB_of hM (Nat.le_refl _) hal
        replace hbC := Lib.hid (bgo hbC.out hal)
        clear hal
        obtain ⟨e0, e1, e2, j0, j1, j2⟩ := box3_cells hZ
        go_wp2_with fail
        refine hKq.out _ _ ?_ (fun hHeld => ?_)
        · intro _; (try dsimp only); (first | exact K.out _ hbC.out | exact K.out _ (bdrew W2))
        clear hKq Kq
        try simp only [Act.put, List.getElem_toArray, List.getElem_cons_succ, List.getElem_cons_zero, List.setIfInBounds_toArray, List.set_cons_zero, List.set_cons_succ]
        refine wpAnyJ_take0 (i := 4) (v := ?_) rfl (by kernel_rfl) (by kernel_rfl) (by kernel_rfl) (fun _ _ _ h => h) (by rfl) (Or.inl ⟨by rfl, ?_⟩) (by assumption) ?_
        rotate_left 1
        · intro w hSw; (try dsimp only at hSw); go_simp <;> (try with_reducible rfl)
        try simp only [Act.put, List.getElem_toArray, List.getElem_cons_succ, List.getElem_cons_zero, List.setIfInBounds_toArray, List.set_cons_zero, List.set_cons_succ]
        refine wpAnyJ_take0 (i := 5) (v := ?_) rfl (by kernel_rfl) (by kernel_rfl) (by kernel_rfl) (fun _ _ _ h => h) (by rfl) (Or.inl ⟨by rfl, ?_⟩) (by assumption) ?_
        rotate_left 1
        · intro w hSw; (try dsimp only at hSw); go_simp <;> (try with_reducible rfl)
        try simp only [Act.put, List.getElem_toArray, List.getElem_cons_succ, List.getElem_cons_zero, List.setIfInBounds_toArray, List.set_cons_zero, List.set_cons_succ]
        refine wpAnyJ_take0 (i := 6) (v := ?_) rfl (by kernel_rfl) (by kernel_rfl) (by kernel_rfl) (fun _ _ _ h => h) (by rfl) (Or.inl ⟨by rfl, ?_⟩) (by assumption) ?_
        rotate_left 1
        · intro w hSw; (try dsimp only at hSw); go_simp <;> (try with_reducible rfl)
        try simp only [Act.put, List.getElem_toArray, List.getElem_cons_succ, List.getElem_cons_zero, List.setIfInBounds_toArray, List.set_cons_zero, List.set_cons_succ]
        refine wpAnyJ_take0 (i := 7) (v := ?_) rfl (by kernel_rfl) (by kernel_rfl) (by kernel_rfl) (fun _ _ _ h => h) (by rfl) (Or.inl ⟨by rfl, ?_⟩) (by assumption) ?_
        rotate_left 1
        · intro w hSw; (try dsimp only at hSw); go_simp <;> (try with_reducible rfl)
        try simp only [Act.put, List.getElem_toArray, List.getElem_cons_succ, List.getElem_cons_zero, List.setIfInBounds_toArray, List.set_cons_zero, List.set_cons_succ]
        refine wpAnyJ_ready (rs := [9]) (by kernel_rfl) (by simp) ?_
        refine AllReadyJ.cons (o := _) rfl (fun Kq hKq => ?_) ?_
        · go_simp
          refine hKq.out _ _ ?_ (fun hHeld => ?_)
          · intro hl; exact absurd hl (by decide)
          clear hKq Kq
          try simp only [Act.put, List.getElem_toArray, List.getElem_cons_succ, List.getElem_cons_zero, List.setIfInBounds_toArray, List.set_cons_zero, List.set_cons_succ]
          refine wpAnyJ_take0 (i := 10) (v := ?_) rfl (by kernel_rfl) (by kernel_rfl) (by kernel_rfl) (fun _ _ _ h => h) (by rfl) (Or.inl ⟨by rfl, ?_⟩) (by assumption) ?_
          rotate_left 1
          · intro w hSw; (try dsimp only at hSw); go_simp <;> (try with_reducible rfl)
          try simp only [Act.put, List.getElem_toArray, List.getElem_cons_succ, List.getElem_cons_zero, List.setIfInBounds_toArray, List.set_cons_zero, List.set_cons_succ]
          refine wpAnyJ_take0 (i := 11) (v := ?_) rfl (by kernel_rfl) (by kernel_rfl) (by kernel_rfl) (fun _ _ _ h => h) (by rfl) (Or.inl ⟨by rfl, ?_⟩) (by assumption) ?_
          rotate_left 1
          · intro w hSw; (try dsimp only at hSw); go_simp <;> (try with_reducible rfl)
          try simp only [Act.put, List.getElem_toArray, List.getElem_cons_succ, List.getElem_cons_zero, List.setIfInBounds_toArray, List.set_cons_zero, List.set_cons_succ]
          refine wpAnyJ_done (by kernel_rfl) ?_ _
          clear e0 e1 e2 j0 j1 j2 hHeld
          go_wp2_with fail
          go_meet
          exact csg_mid hZ hg7 hV hG hbC.out
        exact AllReadyJ.nil
      exact AllReadyJ.nil
    exact AllReadyJ.nil
  exact AllReadyJ.nil
 case rest =>
 obtain ⟨g7, AV, cV, AG, cG, rfl, rfl, rfl, b7, hg7, hV, hG, hb5⟩ := hcut
 obtain ⟨W4, rfl⟩ : ∃ W4 : World, W4 = wc := ⟨_, rfl⟩
 have hne47 : Hid (g4 ≠ g7) := Nat.ne_of_lt (Nat.lt_of_lt_of_le x4.out.lt hg7)
 have hne43 : Hid (g4 ≠ g3) := by have := hg4.out; show _ ≠ _; omega
 have hne37 : Hid (g3 ≠ g7) := Nat.ne_of_lt (Nat.lt_of_lt_of_le x33.out.lt hg7)
 have hne53 : Hid (g5 ≠ g3) := by have := hg4.out; have := hg5.out; show _ ≠ _; omega
 have hw3 : Hid (w.heap.size ≤ g3) := by have := hg3.out; have := hg2.out; show _ ≤ _; omega
 replace x4 := x4.out.below hb5
 replace x5 := x5.out.below hb5
 have x3 := x33.out.below hb5
 have sp4 := seesB_of sp2.out (Nat.le_refl _) hb5
 replace hbw := Lib.hid (bgo hbw.out hb5)
 clear htx hsn K hbC sp2 x33 hb5
 by_cases hE : E = 0
 · subst hE
   clear hz
   have x7 := Lib.hid b7
   replace x3 := Lib.hid x3
   replace x4 := Lib.hid x4
   replace x5 := Lib.hid x5
   have sp4 := Lib.hid sp4
   have hG4 := Lib.hid hG
   have hV4 := Lib.hid hV
   have K : Hid (∀ W : World, Below W4.heap.size W4 W → W.cell? ⟨g7, 0, none⟩ = some (.slice AV sd1.length cV) ∧ W.cell? ⟨g7, 1, none⟩ = some (.int .i64 h1) ∧ W.cell? ⟨g7, 2, none⟩ = some (.int .i64 n1) ∧ W.cell? ⟨g3, 0, none⟩ = some (.string S0) ∧ W.cell? ⟨g3, 1, none⟩ = some (.slice Ap p.length cp) ∧ W.cell? ⟨g3, 2, none⟩ = some (.int .i64 f) ∧ W.cell? ⟨g3, 3, none⟩ = some (.int .i64 t)) := fun W hW => ⟨(x7.out.below hW).cell 0, (x7.out.below hW).cell 1, (x7.out.below hW).cell 2, (x3.out.below hW).cell 0, (x3.out.below hW).cell 1, (x3.out.below hW).cell 2, (x3.out.below hW).cell 3⟩
   have hbC := Lib.hid (bdrew W4)
   clear b7 hG hV
   go_wp2_with fail
   refine wp_region_J (fun W' : World => W'.cell? ⟨g7, 0, none⟩ = some (.slice AV sd1.length cV) ∧ W'.cell? ⟨g7, 1, none⟩ = some (.int .i64 h1) ∧ W'.cell? ⟨g7, 2, none⟩ = some (.int .i64 n1) ∧ W'.cell? ⟨g3, 0, none⟩ = some (.string S0) ∧ W'.cell? ⟨g3, 1, none⟩ = some (.slice Ap p.length cp) ∧ W'.cell? ⟨g3, 2, none⟩ = some (.int .i64 f) ∧ W'.cell? ⟨g3, 3, none⟩ = some (.int .i64 t)) 14 (by kernel_rfl) ?_ (fun hHeld => ?_)
   · (try dsimp only); (first | exact K.out _ hbC.out | exact K.out _ (bdrew W4) | exact K.out _ (bgo hbC.out (balloc _ _)) | exact kS)
   generalize W4.drew = X at *
   refine wpAnyJ_take (i := 0) (v := ?_) rfl (by kernel_rfl) (by kernel_rfl) (by kernel_rfl) (fun _ _ _ h => h) (by rfl) rfl (by kernel_rfl) (by kernel_rfl) (Or.inl ⟨by rfl, ?_⟩) (by assumption) ?_
   rotate_left 1
   · intro w hSw; (try dsimp only at hSw); go_simp <;> (try with_reducible rfl)
   try simp only [Act.put, List.getElem_toArray, List.getElem_cons_succ, List.getElem_cons_zero, List.setIfInBounds_toArray, List.set_cons_zero, List.set_cons_succ]
   refine wpAnyJ_take0 (i := 1) (v := ?_) rfl (by kernel_rfl) (by kernel_rfl) (by kernel_rfl) (fun _ _ _ h => h) (by rfl) (Or.inl ⟨by rfl, ?_⟩) (by assumption) ?_
   rotate_left 1
   · intro w hSw; (try dsimp only at hSw); go_simp <;> (try with_reducible rfl)
   try simp only [Act.put, List.getElem_toArray, List.getElem_cons_succ, List.getElem_cons_zero, List.setIfInBounds_toArray, List.set_cons_zero, List.set_cons_succ]
   refine wpAnyJ_take (i := 2) (v := ?_) rfl (by kernel_rfl) (by kernel_rfl) (by kernel_rfl) (fun _ _ _ h => h) (by rfl) rfl (by kernel_rfl) (by kernel_rfl) (Or.inl ⟨by rfl, ?_⟩) (by assumption) ?_
   rotate_left 1
   · intro w hSw; (try dsimp only at hSw); go_simp <;> (try with_reducible rfl)
   try simp only [Act.put, List.getElem_toArray, List.getElem_cons_succ, List.getElem_cons_zero, List.setIfInBounds_toArray, List.set_cons_zero, List.set_cons_succ]
   refine wpAnyJ_take0 (i := 3) (v := ?_) rfl (by kernel_rfl) (by kernel_rfl) (by kernel_rfl) (fun _ _ _ h => h) (by rfl) (Or.inl ⟨by rfl, ?_⟩) (by assumption) ?_
   rotate_left 1
   · intro w hSw; (try dsimp only at hSw); go_simp <;> (try with_reducible rfl)
   try simp only [Act.put, List.getElem_toArray, List.getElem_cons_succ, List.getElem_cons_zero, List.setIfInBounds_toArray, List.set_cons_zero, List.set_cons_succ]
   refine wpAnyJ_take (i := 4) (v := ?_) rfl (by kernel_rfl) (by kernel_rfl) (by kernel_rfl) (fun _ _ _ h => h) (by rfl) rfl (by kernel_rfl) (by kernel_rfl) (Or.inl ⟨by rfl, ?_⟩) (by assumption) ?_
   rotate_left 1
   · intro w hSw; (try dsimp only at hSw); go_simp <;> (try with_reducible rfl)
   try simp only [Act.put, List.getElem_toArray, List.getElem_cons_succ, List.getElem_cons_zero, List.setIfInBounds_toArray, List.set_cons_zero, List.set_cons_succ]
   refine wpAnyJ_take0 (i := 7) (v := ?_) rfl (by kernel_rfl) (by kernel_rfl) (by kernel_rfl) (fun _ _ _ h => h) (by rfl) (Or.inl ⟨by rfl, ?_⟩) (by assumption) ?_
   rotate_left 1
   · intro w hSw; (try dsimp only at hSw); go_simp <;> (try with_reducible rfl)
   try simp only [Act.put, List.getElem_toArray, List.getElem_cons_succ, List.getElem_cons_zero, List.setIfInBounds_toArray, List.set_cons_zero, List.set_cons_succ]
   refine wpAnyJ_take (i := 8) (v := ?_) rfl (by kernel_rfl) (by kernel_rfl) (by kernel_rfl) (fun _ _ _ h => h) (by rfl) rfl (by kernel_rfl) (by kernel_rfl) (Or.inl ⟨by rfl, ?_⟩) (by assumption) ?_
   rotate_left 1
   · intro w hSw; (try dsimp only at hSw); go_simp <;> (try with_reducible rfl)
   try simp only [Act.put, List.getElem_toArray, List.getElem_cons_succ, List.getElem_cons_zero, List.setIfInBounds_toArray, List.set_cons_zero, List.set_cons_succ]
   refine wpAnyJ_take0 (i := 9) (v := ?_) rfl (by kernel_rfl) (by kernel_rfl) (by kernel_rfl) (fun _ _ _ h => h) (by rfl) (Or.inl ⟨by rfl, ?_⟩) (by assumption) ?_
   rotate_left 1
   · intro w hSw; (try dsimp only at hSw); go_simp <;> (try with_reducible rfl)
   try simp only [Act.put, List.getElem_toArray, List.getElem_cons_succ, List.getElem_cons_zero, List.setIfInBounds_toArray, List.set_cons_zero, List.set_cons_succ]
   refine wpAnyJ_take (i := 10) (v := ?_) rfl (by kernel_rfl) (by kernel_rfl) (by kernel_rfl) (fun _ _ _ h => h) (by rfl) rfl (by kernel_rfl) (by kernel_rfl) (Or.inl ⟨by rfl, ?_⟩) (by assumption) ?_
   rotate_left 1
   · intro w hSw; (try dsimp only at hSw); go_simp <;> (try with_reducible rfl)
   try simp only [Act.put, List.getElem_toArray, List.getElem_cons_succ, List.getElem_cons_zero, List.setIfInBounds_toArray, List.set_cons_zero, List.set_cons_succ]
   refine wpAnyJ_take0 (i := 11) (v := ?_) rfl (by kernel_rfl) (by kernel_rfl) (by kernel_rfl) (fun _ _ _ h => h) (by rfl) (Or.inl ⟨by rfl, ?_⟩) (by assumption) ?_
   rotate_left 1
   · intro w hSw; (try dsimp only at hSw); go_simp <;> (try with_reducible rfl)
   try simp only [Act.put, List.getElem_toArray, List.getElem_cons_succ, List.getElem_cons_zero, List.setIfInBounds_toArray, List.set_cons_zero, List.set_cons_succ]
   refine wpAnyJ_ready (rs := [5]) (by kernel_rfl) (by simp) ?_
   refine AllReadyJ.cons (o := _) rfl (fun Kq hKq => ?_) ?_
   · go_simp
     refine hKq.out _ _ ?_ (fun hHeld => ?_)
     · intro _; (try dsimp only); (first | exact K.out _ hbC.out | exact K.out _ (bdrew W4) | exact K.out _ (bgo hbC.out (balloc _ _)) | exact kS)
     clear hKq Kq
     try simp only [Act.put, List.getElem_toArray, List.getElem_cons_succ, List.getElem_cons_zero, List.setIfInBounds_toArray, List.set_cons_zero, List.set_cons_succ]
     refine wpAnyJ_ready (rs := [6]) (by kernel_rfl) (by simp) ?_
     refine AllReadyJ.cons (o := _) rfl (fun Kq hKq => ?_) ?_
     · go_simp
       go_at_call 85
       refine (rjoin_lit (vs := [.slice Ap p.length cp]) (p :: []) X X X.heap.size rfl (Below.refl _ _) ⟨seesB_of sp4.out (Nat.le_refl _) hbC.out, trivial⟩ (by simp) (by have := hwp.out; simp; omega)).mono ?_
       rintro e X ⟨vP, rfl, hP0, hal⟩
       obtain ⟨AP, cP, rfl, -, -⟩ := hP0.sees.mk_
       have hP := hP0.sees
       rw [show (p :: []).flatten = p by simp] at hP ⊢
       clear hP0
       replace hbC := Lib.hid (bgo hbC.out hal)
       clear hal
       have hG := seesB_of hG4.out (Nat.le_refl _) hbC.out
       have hV := seesB_of hV4.out (Nat.le_refl _) hbC.out
       have b4 := x4.out.below hbC.out
       have b5 := x5.out.below hbC.out
       have b7 := x7.out.below hbC.out
       have b3 := x3.out.below hbC.out
       obtain ⟨e0, e1, e2, j0, j1, j2⟩ := box3_cells b4
       go_wp2_with fail
       refine hKq.out _ _ ?_ (fun hHeld => ?_)
       · intro _; (try dsimp only); (first | exact K.out _ hbC.out | exact K.out _ (bdrew W4) | exact K.out _ (bgo hbC.out (balloc _ _)) | exact kS)
       clear hKq Kq
       try simp only [Act.put, List.getElem_toArray, List.getElem_cons_succ, List.getElem_cons_zero, List.setIfInBounds_toArray, List.set_cons_zero, List.set_cons_succ]
       refine wpAnyJ_take0 (i := 12) (v := ?_) rfl (by kernel_rfl) (by kernel_rfl) (by kernel_rfl) (fun _ _ _ h => h) (by rfl) (Or.inl ⟨by rfl, ?_⟩) (by assumption) ?_
       rotate_left 1
       · intro w hSw; (try dsimp only at hSw); go_simp <;> (try with_reducible rfl)
       try simp only [Act.put, List.getElem_toArray, List.getElem_cons_succ, List.getElem_cons_zero, List.setIfInBounds_toArray, List.set_cons_zero, List.set_cons_succ]
       refine wpAnyJ_ready (rs := [13]) (by kernel_rfl) (by simp) ?_
       refine AllReadyJ.cons (o := _) rfl (fun Kq hKq => ?_) ?_
       · go_simp
         have c4 := lset3 b4 (.slice AV sd1.length cV) (.int .i64 h1) (.int .i64 n1)
         have c5 := off3 b5 hne45.out (.slice AV sd1.length cV) (.int .i64 h1) (.int .i64 n1)
         have c7 := off3 b7 hne47.out (.slice AV sd1.length cV) (.int .i64 h1) (.int .i64 n1)
         have c3 := off3 b3 hne43.out (.slice AV sd1.length cV) (.int .i64 h1) (.int .i64 n1)
         have hP2 := sees_s3 b4 (noBL3' (NoB.s none 0 0) (NoB.i 0) (NoB.i 0)) (.slice AV sd1.length cV) (.int .i64 h1) (.int .i64 n1) hP
         have hG2 := sees_s3 b4 (noBL3' (NoB.s none 0 0) (NoB.i 0) (NoB.i 0)) (.slice AV sd1.length cV) (.int .i64 h1) (.int .i64 n1) hG
         have hV2 := sees_s3 b4 (noBL3' (NoB.s none 0 0) (NoB.i 0) (NoB.i 0)) (.slice AV sd1.length cV) (.int .i64 h1) (.int .i64 n1) hV
         have hb2 := Lib.hid (below_set3 (bgo hbw.out hbC.out) hw4.out (.slice AV sd1.length cV) (.int .i64 h1) (.int .i64 n1))
         clear e0 e1 e2 j0 j1 j2 b4 b5 b7 b3 hP hG hV
         generalize ((X.setCell ⟨g4, 0, none⟩ (.slice AV sd1.length cV)).setCell ⟨g4, 1, none⟩ (.int .i64 h1)).setCell ⟨g4, 2, none⟩ (.int .i64 n1) = Y at *
         have kS := (show Y.cell? ⟨g7, 0, none⟩ = some (.slice AV sd1.length cV) ∧ Y.cell? ⟨g7, 1, none⟩ = some (.int .i64 h1) ∧ Y.cell? ⟨g7, 2, none⟩ = some (.int .i64 n1) ∧ Y.cell? ⟨g3, 0, none⟩ = some (.string S0) ∧ Y.cell? ⟨g3, 1, none⟩ = some (.slice Ap p.length cp) ∧ Y.cell? ⟨g3, 2, none⟩ = some (.int .i64 f) ∧ Y.cell? ⟨g3, 3, none⟩ = some (.int .i64 t) from ⟨c7.cell 0, c7.cell 1, c7.cell 2, c3.cell 0, c3.cell 1, c3.cell 2, c3.cell 3⟩)
         obtain ⟨e0, e1, e2, e3, e4⟩ := box5_cells c5
         have j0 := c5.frozen 0
         have j1 := c5.frozen 1
         have j2 := c5.frozen 2
         have j3 := c5.frozen 3
         have j4 := c5.frozen 4
         refine hKq.out _ _ ?_ (fun hHeld => ?_)
         · intro _; (try dsimp only); (first | exact K.out _ hbC.out | exact K.out _ (bdrew W4) | exact K.out _ (bgo hbC.out (balloc _ _)) | exact kS)
         clear hKq Kq
         try simp only [Act.put, List.getElem_toArray, List.getElem_cons_succ, List.getElem_cons_zero, List.setIfInBounds_toArray, List.set_cons_zero, List.set_cons_succ]
         refine wpAnyJ_ready (rs := [14]) (by kernel_rfl) (by simp) ?_
         refine AllReadyJ.cons (o := _) rfl (fun Kq hKq => ?_) ?_
         · go_simp
           refine hKq.out _ _ ?_ (fun hHeld => ?_)
           · intro hl; exact absurd hl (by decide)
           clear hKq Kq
           try simp only [Act.put, List.getElem_toArray, List.getElem_cons_succ, List.getElem_cons_zero, List.setIfInBounds_toArray, List.set_cons_zero, List.set_cons_succ]
           refine wpAnyJ_take0 (i := 15) (v := ?_) rfl (by kernel_rfl) (by kernel_rfl) (by kernel_rfl) (fun _ _ _ h => h) (by rfl) (Or.inl ⟨by rfl, ?_⟩) (by assumption) ?_
           rotate_left 1
           · intro w hSw; (try dsimp only at hSw); go_simp <;> (try with_reducible rfl)
           try simp only [Act.put, List.getElem_toArray, List.getElem_cons_succ, List.getElem_cons_zero, List.setIfInBounds_toArray, List.set_cons_zero, List.set_cons_succ]
           refine wpAnyJ_done (by kernel_rfl) ?_ _
           have d5 := set5 c5 (.string S0) (.slice AP p.length cP) (.int .i64 f) (.int .i64 t) (.slice AG SG.length cG)
           have d4 := off5 c4 hne54.out (.string S0) (.slice AP p.length cP) (.int .i64 f) (.int .i64 t) (.slice AG SG.length cG)
           have hP3 := sees_s5 c5 (noBL5 (NoB.st { data := #[] }) (NoB.s none 0 0) (NoB.i 0) (NoB.i 0) (NoB.s none 0 0)) (.string S0) (.slice AP p.length cP) (.int .i64 f) (.int .i64 t) (.slice AG SG.length cG) hP2
           have hG3 := sees_s5 c5 (noBL5 (NoB.st { data := #[] }) (NoB.s none 0 0) (NoB.i 0) (NoB.i 0) (NoB.s none 0 0)) (.string S0) (.slice AP p.length cP) (.int .i64 f) (.int .i64 t) (.slice AG SG.length cG) hG2
           have hV3 := sees_s5 c5 (noBL5 (NoB.st { data := #[] }) (NoB.s none 0 0) (NoB.i 0) (NoB.i 0) (NoB.s none 0 0)) (.string S0) (.slice AP p.length cP) (.int .i64 f) (.int .i64 t) (.slice AG SG.length cG) hV2
           have hb3 := below5 hb2.out hw5.out (.string S0) (.slice AP p.length cP) (.int .i64 f) (.int .i64 t) (.slice AG SG.length cG)
           clear e0 e1 e2 e3 e4 j0 j1 j2 j3 j4 kS hHeld c3 c4 c5 c7 hP2 hG2 hV2
           go_wp2_with fail
           generalize ((((Y.setCell ⟨g5, 0, none⟩ (.string S0)).setCell ⟨g5, 1, none⟩ (.slice AP p.length cP)).setCell ⟨g5, 2, none⟩ (.int .i64 f)).setCell ⟨g5, 3, none⟩ (.int .i64 t)).setCell ⟨g5, 4, none⟩ (.slice AG SG.length cG) = Z at *
           have z0 := d4.cell 0
           have z1 := d4.cell 1
           have z2 := d4.cell 2
           obtain ⟨z3, z4, z5, z6, z7⟩ := box5_cells d5
           simp only [List.getElem?_cons_zero, List.getElem?_cons_succ] at z0 z1 z2
           refine bodyPost_ret (v := .tuple #[.agg #[.slice AV sd1.length cV, .int .i64 h1, .int .i64 n1], .agg #[.string S0, .slice AP p.length cP, .int .i64 f, .int .i64 t, .slice AG SG.length cG], .int .i64 0]) (by simp [results, Tryz.results50, go_sem, z0, z1, z2, z3, z4, z5, z6, z7]) rfl ?_
           exact ⟨.slice AV sd1.length cV, .slice AP p.length cP, .slice AG SG.length cG, by rw [if_pos rfl, hS0.out], hV3, by rw [if_pos rfl]; exact hP3, hG3, hb3⟩
         exact AllReadyJ.nil
       exact AllReadyJ.nil
     exact AllReadyJ.nil
   exact AllReadyJ.nil
 · obtain ⟨rfl, q0, q1, q2, q3⟩ := hz.out hE
   clear hE
   have hE := Lib.hid (show ¬ (7 : Int) = 0 by omega)
   replace q0 := Lib.hid q0
   replace q1 := Lib.hid q1
   replace q2 := Lib.hid q2
   replace q3 := Lib.hid q3
   clear hz
   replace x3 := Lib.hid x3
   replace hV := Lib.hid hV
   replace hG := Lib.hid hG
   replace b7 := Lib.hid b7
   obtain ⟨e0, e1, e2, j0, j1, j2⟩ := box3_cells x4
   have c4 := lset3 x4 (.slice none 0 0) (.int .i64 0) (.int .i64 0)
   have c5 := off3 x5 hne45.out (.slice none 0 0) (.int .i64 0) (.int .i64 0)
   have hb3 := below_set3 hbw.out hw4.out (.slice none 0 0) (.int .i64 0) (.int .i64 0)
   obtain ⟨k0, k1, k2, k3, k4⟩ := box5_cells c5
   have l0 := c5.frozen 0
   have l1 := c5.frozen 1
   have l2 := c5.frozen 2
   have l3 := c5.frozen 3
   have l4 := c5.frozen 4
   have d5 := set5 c5 (.string { data := #[] }) (.slice none 0 0) (.int .i64 0) (.int .i64 0) (.slice none 0 0)
   have d4 := off5 c4 hne54.out (.string { data := #[] }) (.slice none 0 0) (.int .i64 0) (.int .i64 0) (.slice none 0 0)
   have hb4 := below5 hb3 hw5.out (.string { data := #[] }) (.slice none 0 0) (.int .i64 0) (.int .i64 0) (.slice none 0 0)
   (try dsimp only)
   go_wp2_with fail
   have z0 := d4.cell 0
   have z1 := d4.cell 1
   have z2 := d4.cell 2
   obtain ⟨z3, z4, z5, z6, z7⟩ := box5_cells d5
   simp only [List.getElem?_cons_zero, List.getElem?_cons_succ] at z0 z1 z2
   refine bodyPost_ret (v := .tuple #[.agg #[.slice none 0 0, .int .i64 0, .int .i64 0], .agg #[.string { data := #[] }, .slice none 0 0, .int .i64 0, .int .i64 0, .slice none 0 0], .int .i64 7]) (by simp [results, Tryz.results50, go_sem, z0, z1, z2, z3, z4, z5, z6, z7]) rfl ?_
   exact ⟨.slice none 0 0, .slice none 0 0, .slice none 0 0, by rw [if_neg hE.out, q1.out, q2.out], by rw [q0.out]; exact SeesB.nil _ _, by rw [if_neg hE.out]; exact SeesB.nil _ _, by rw [q3.out]; exact SeesB.nil _ _, hb4⟩
end Go.Proofs.YtjgepckncogdaaaGreat

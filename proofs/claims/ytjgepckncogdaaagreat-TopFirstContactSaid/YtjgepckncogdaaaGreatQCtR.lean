/- What a law leans on beyond the base: contracts, plain functions, walks. Conditions: those of each theorem. -/
import Derived.Deep.CutBlock
import Derived.Test.YtjgepckncogdaaaGreatQCtSF
import Derived.Test.YtjgepckncogdaaaGreatQCtW
set_option linter.unusedVariables false
set_option linter.unusedSimpArgs false
namespace Go.Proofs.YtjgepckncogdaaaGreat
open Go Go.RowKit
set_option linter.unusedVariables false
set_option linter.unusedSimpArgs false
attribute [local go_sem ↓] Go.wp_at_zero Go.wp_at_succ
theorem sees_far {W : World} {n g j : Nat} {u v : Value} {l : Bs} (h : SeesB W W.heap.size u l) (f : From n u) (hg : g < n) : SeesB (W.setCell ⟨g, j, none⟩ v) (W.setCell ⟨g, j, none⟩ v).heap.size u l := by
 refine SeesB.more (SeesB.stay h fun hl k hk p hp => World.cell?_setCell_other W _ p v fun e => ?_) (by simp [World.setCell])
 obtain ⟨A, c, rfl, -, -⟩ := h.mk_
 cases A with
 | none => cases hk
 | some a =>
   have h1 := f a _ _ rfl
   have h2 : a.block = k := by
    obtain ⟨b, o, e1, -, -⟩ := SeesB.at_ h (List.length_pos_iff.2 hl)
    cases e1
    cases hk
    rfl
   have h3 : p.block = g := by rw [← e]
   omega
theorem far3 {W : World} {n g : Nat} {u : Value} {l : Bs} (h : SeesB W W.heap.size u l) (f : From n u) (hg : g < n) (x y z : Value) : SeesB (((W.setCell ⟨g, 0, none⟩ x).setCell ⟨g, 1, none⟩ y).setCell ⟨g, 2, none⟩ z) (((W.setCell ⟨g, 0, none⟩ x).setCell ⟨g, 1, none⟩ y).setCell ⟨g, 2, none⟩ z).heap.size u l :=
 sees_far (sees_far (sees_far h f hg) f hg) f hg
theorem far5 {W : World} {n g : Nat} {u : Value} {l : Bs} (h : SeesB W W.heap.size u l) (f : From n u) (hg : g < n) (x y z a b : Value) : SeesB (((((W.setCell ⟨g, 0, none⟩ x).setCell ⟨g, 1, none⟩ y).setCell ⟨g, 2, none⟩ z).setCell ⟨g, 3, none⟩ a).setCell ⟨g, 4, none⟩ b) (((((W.setCell ⟨g, 0, none⟩ x).setCell ⟨g, 1, none⟩ y).setCell ⟨g, 2, none⟩ z).setCell ⟨g, 3, none⟩ a).setCell ⟨g, 4, none⟩ b).heap.size u l :=
 sees_far (sees_far (sees_far (sees_far (sees_far h f hg) f hg) f hg) f hg) f hg
theorem set5 {W : World} {g : Nat} {T : TypeId} {a b c d e : Value} (h : Box W g T [a, b, c, d, e]) (x y z u v : Value) : Box (((((W.setCell ⟨g, 0, none⟩ x).setCell ⟨g, 1, none⟩ y).setCell ⟨g, 2, none⟩ z).setCell ⟨g, 3, none⟩ u).setCell ⟨g, 4, none⟩ v) g T [x, y, z, u, v] := by
 have y := ((((h.set 0 x).set 1 y).set 2 z).set 3 u).set 4 v
 simpa only [List.set_cons_zero, List.set_cons_succ] using y
theorem off5 {W : World} {g G : Nat} {T : TypeId} {xs : List Value} (h : Box W g T xs) (hne : G ≠ g) (x y z u v : Value) : Box (((((W.setCell ⟨G, 0, none⟩ x).setCell ⟨G, 1, none⟩ y).setCell ⟨G, 2, none⟩ z).setCell ⟨G, 3, none⟩ u).setCell ⟨G, 4, none⟩ v) g T xs :=
 ((((h.other hne.symm).other hne.symm).other hne.symm).other hne.symm).other hne.symm
theorem off3 {W : World} {g G : Nat} {T : TypeId} {xs : List Value} (h : Box W g T xs) (hne : G ≠ g) (x y z : Value) : Box (((W.setCell ⟨G, 0, none⟩ x).setCell ⟨G, 1, none⟩ y).setCell ⟨G, 2, none⟩ z) g T xs :=
 ((h.other hne.symm).other hne.symm).other hne.symm
theorem below5 {w W : World} {g : Nat} (h : Below w.heap.size w W) (hg : w.heap.size ≤ g) (x y z u v : Value) : Below w.heap.size w (((((W.setCell ⟨g, 0, none⟩ x).setCell ⟨g, 1, none⟩ y).setCell ⟨g, 2, none⟩ z).setCell ⟨g, 3, none⟩ u).setCell ⟨g, 4, none⟩ v) :=
 ((((h.setCell (p := ⟨g, 0, none⟩) hg _).setCell (p := ⟨g, 1, none⟩) hg _).setCell (p := ⟨g, 2, none⟩) hg _).setCell (p := ⟨g, 3, none⟩) hg _).setCell (p := ⟨g, 4, none⟩) hg _
theorem lset3 {W : World} {g : Nat} {T : TypeId} {a b c : Value} (h : Box W g T [a, b, c]) (x y z : Value) : Box (((W.setCell ⟨g, 0, none⟩ x).setCell ⟨g, 1, none⟩ y).setCell ⟨g, 2, none⟩ z) g T [x, y, z] := by
 have y := ((h.set 0 x).set 1 y).set 2 z
 simpa only [List.set_cons_zero, List.set_cons_succ] using y
def CrsM (w2 : World) (sd SG : Bs) (v7 v8 v9 : Value) (W : World) : Prop :=
 ∃ g7 AV cV AG cG, v7 = .pointer (some ⟨g7, 0, none⟩) ∧ v8 = .slice AG SG.length cG ∧ v9 = .int .i64 0 ∧ Box W g7 27 [.slice AV sd.length cV, .int .i64 0, .int .i64 1] ∧ w2.heap.size ≤ g7 ∧ SeesB W W.heap.size (.slice AG SG.length cG) SG ∧ From w2.heap.size (.slice AG SG.length cG) ∧ Below w2.heap.size w2 W
theorem crs_mid {w2 X : World} {g7 : Nat} {AV AG : Option Addr} {cV cG : Nat} {sd SG : Bs} (hZ : Box X g7 27 [.slice none 0 0, .int .i64 0, .int .i64 0]) (hg : w2.heap.size ≤ g7) (hV : SeesB X X.heap.size (.slice AV sd.length cV) sd) (hG : SeesB X X.heap.size (.slice AG SG.length cG) SG) (fG : From w2.heap.size (.slice AG SG.length cG)) (hb : Below w2.heap.size w2 X) :
 CrsM w2 sd SG (.pointer (some ⟨g7, 0, none⟩)) (.slice AG SG.length cG) (.int .i64 0) (((X.setCell ⟨g7, 0, none⟩ (.slice AV sd.length cV)).setCell ⟨g7, 1, none⟩ (.int .i64 0)).setCell ⟨g7, 2, none⟩ (.int .i64 1)) := by
 have hz : (((X.setCell ⟨g7, 0, none⟩ (.slice AV sd.length cV)).setCell ⟨g7, 1, none⟩ (.int .i64 0)).setCell ⟨g7, 2, none⟩ (.int .i64 1)).heap.size = X.heap.size := by simp [World.setCell]
 refine ⟨g7, AV, cV, AG, cG, rfl, rfl, rfl, lset3 hZ _ _ _, hg, ?_, fG, ((hb.setCell (p := ⟨g7, 0, none⟩) hg _).setCell (p := ⟨g7, 1, none⟩) hg _).setCell (p := ⟨g7, 2, none⟩) hg _⟩
 rw [hz]
 exact hG.over (Nat.le_refl _) hZ (noBL3' (NoB.s none 0 0) (NoB.i 0) (NoB.i 0)) (ggo (ggo (setCell_grown X g7 0 _) (setCell_grown _ g7 1 _)) (setCell_grown _ g7 2 _))
def CRSignP (sd n p : Bs) (f t : Int) (w : World) (e : Ending) (w' : World) : Prop :=
 ∃ v v2 v3, e = .returned (.tuple #[.agg #[v, .int .i64 0, .int .i64 1], .agg #[.string (strB n), v2, .int .i64 f, .int .i64 t, v3], .int .i64 0]) ∧ (∃ A m c, v = .slice A m c) ∧ SeesB w' w'.heap.size v2 p ∧ SeesB w' w'.heap.size v3 (sigG sd 0 0 (ctextB n p f t)) ∧ From w.heap.size v2 ∧ From w.heap.size v3 ∧ Below w.heap.size w w'
set_option maxRecDepth 100000 in
set_option maxHeartbeats 8000000 in
theorem crsign_any (B : Nat) (u u2 : Value) (sd n p : Bs) (f t : Int) (w : World) (hu : SeesB w B u sd) (hu2 : SeesB w B u2 p) (hB : B ≤ w.heap.size) (hl : sd.length = 32) (hF : formB n p.length f t = true) :
 Calls Tryz.prog 50 #[.agg #[u, .int .i64 0, .int .i64 0], .agg #[.string (strB n), u2, .int .i64 f, .int .i64 t, .slice none 0 0]] w (CRSignP sd n p f t w) := by
 obtain ⟨As, cs, rfl, -, -⟩ := hu.mk_
 obtain ⟨Ap, cp, rfl, -, -⟩ := hu2.mk_
 have hpl : p.length = 32 := (form_parts hF).2.2.1
 obtain ⟨f1, f2, f3, f4⟩ := form_parts hF
 have hm := ctext_len n p f t f2 f3
 have hvd := fun W hW => rsvalid_any W.heap.size (.slice As sd.length cs) sd 0 0 W hW
 rw [show validI sd 0 0 = true from validI_mk sd 0 0 hl (by omega) (by omega)] at hvd
 have hfo := fun W => crformed_any n Ap p.length cp none 0 0 f t W
 rw [hF] at hfo
 have htx0 := fun (W : World) (hW : SeesB W W.heap.size (.slice Ap p.length cp) p) => crtext_any W.heap.size (.slice Ap p.length cp) n p f t none 0 0 W hW (Nat.le_refl _) (by omega) (by omega)
 have hsn0 := fun (W : World) (v : Value) (hW : SeesB W W.heap.size (.slice As sd.length cs) sd) (hv : SeesB W W.heap.size v (ctextB n p f t)) => rsignF_ok W.heap.size (.slice As sd.length cs) v sd (ctextB n p f t) 0 0 W hW hv (Nat.le_refl _) hl (by omega) (by omega) (by omega)
 have hM0 : tCert ++ putB 2 n.length ++ n ++ p ++ spanB f t = ctextB n p f t := rfl
 rw [hM0] at htx0
 have hS0 := Lib.hid (Eq.refl (strB n))
 unfold SignOkF at hsn0
 generalize hSG : sigG sd 0 0 (ctextB n p f t) = SG at *
 generalize hMM : ctextB n p f t = M at *
 replace hMM := Lib.hid hMM
 generalize hS1 : strB n = S0 at *
 replace hS0 : Hid (strB n = S0) := hS1
 replace hSG := Lib.hid hSG
 clear hS1 hM0
 have b1 := balloc w (.cells #[.slice As sd.length cs, .int .i64 0, .int .i64 0] 27)
 have b2 := balloc (w.alloc (.cells #[.slice As sd.length cs, .int .i64 0, .int .i64 0] 27)) (.cells #[.string S0, .slice Ap p.length cp, .int .i64 f, .int .i64 t, .slice none 0 0] 70)
 have b3 := balloc ((w.alloc (.cells #[.slice As sd.length cs, .int .i64 0, .int .i64 0] 27)).alloc (.cells #[.string S0, .slice Ap p.length cp, .int .i64 f, .int .i64 t, .slice none 0 0] 70)) (.cells #[.slice none 0 0, .int .i64 0, .int .i64 0] 27)
 have b4 := balloc (((w.alloc (.cells #[.slice As sd.length cs, .int .i64 0, .int .i64 0] 27)).alloc (.cells #[.string S0, .slice Ap p.length cp, .int .i64 f, .int .i64 t, .slice none 0 0] 70)).alloc (.cells #[.slice none 0 0, .int .i64 0, .int .i64 0] 27)) (.cells #[.string { data := #[] }, .slice none 0 0, .int .i64 0, .int .i64 0, .slice none 0 0] 70)
 have hbw0 := bgo (bgo (bgo b1 b2) b3) b4
 have x2 := (((Box.new w 27 [.slice As sd.length cs, .int .i64 0, .int .i64 0]).below b2).below b3).below b4
 have x3 := ((Box.new (w.alloc (.cells #[.slice As sd.length cs, .int .i64 0, .int .i64 0] 27)) 70 [.string S0, .slice Ap p.length cp, .int .i64 f, .int .i64 t, .slice none 0 0]).below b3).below b4
 have x4 := (Box.new ((w.alloc (.cells #[.slice As sd.length cs, .int .i64 0, .int .i64 0] 27)).alloc (.cells #[.string S0, .slice Ap p.length cp, .int .i64 f, .int .i64 t, .slice none 0 0] 70)) 27 [.slice none 0 0, .int .i64 0, .int .i64 0]).below b4
 have x5 := Box.new (((w.alloc (.cells #[.slice As sd.length cs, .int .i64 0, .int .i64 0] 27)).alloc (.cells #[.string S0, .slice Ap p.length cp, .int .i64 f, .int .i64 t, .slice none 0 0] 70)).alloc (.cells #[.slice none 0 0, .int .i64 0, .int .i64 0] 27)) 70 [.string { data := #[] }, .slice none 0 0, .int .i64 0, .int .i64 0, .slice none 0 0]
 rw [World.size_alloc] at x3
 rw [World.size_alloc, World.size_alloc] at x4
 rw [World.size_alloc, World.size_alloc, World.size_alloc] at x5
 change Box ((((w.alloc (.cells #[.slice As sd.length cs, .int .i64 0, .int .i64 0] 27)).alloc (.cells #[.string S0, .slice Ap p.length cp, .int .i64 f, .int .i64 t, .slice none 0 0] 70)).alloc (.cells #[.slice none 0 0, .int .i64 0, .int .i64 0] 27)).alloc (.cells #[.string { data := #[] }, .slice none 0 0, .int .i64 0, .int .i64 0, .slice none 0 0] 70)) _ _ _ at x2 x3 x4 x5
 change Below _ w ((((w.alloc (.cells #[.slice As sd.length cs, .int .i64 0, .int .i64 0] 27)).alloc (.cells #[.string S0, .slice Ap p.length cp, .int .i64 f, .int .i64 t, .slice none 0 0] 70)).alloc (.cells #[.slice none 0 0, .int .i64 0, .int .i64 0] 27)).alloc (.cells #[.string { data := #[] }, .slice none 0 0, .int .i64 0, .int .i64 0, .slice none 0 0] 70)) at hbw0
 have ss := seesB_of hu hB hbw0
 have sp := seesB_of hu2 hB hbw0
 have hzz : ((((w.alloc (.cells #[.slice As sd.length cs, .int .i64 0, .int .i64 0] 27)).alloc (.cells #[.string S0, .slice Ap p.length cp, .int .i64 f, .int .i64 t, .slice none 0 0] 70)).alloc (.cells #[.slice none 0 0, .int .i64 0, .int .i64 0] 27)).alloc (.cells #[.string { data := #[] }, .slice none 0 0, .int .i64 0, .int .i64 0, .slice none 0 0] 70)).heap.size = w.heap.size + 1 + 1 + 1 + 1 := by rw [World.size_alloc, World.size_alloc, World.size_alloc, World.size_alloc]
 have hwl := Lib.hid hl
 have hwp := Lib.hid hpl
 clear b1 b2 b3 b4 hu hu2 hl hpl hF f1 f2 f3 f4 hm
 go_enter Tryz.func50, Tryz.ntmps50
 go_upto_region 1 with (fail)
 generalize (((w.alloc (.cells #[.slice As sd.length cs, .int .i64 0, .int .i64 0] 27)).alloc (.cells #[.string S0, .slice Ap p.length cp, .int .i64 f, .int .i64 t, .slice none 0 0] 70)).alloc (.cells #[.slice none 0 0, .int .i64 0, .int .i64 0] 27)).alloc (.cells #[.string { data := #[] }, .slice none 0 0, .int .i64 0, .int .i64 0, .slice none 0 0] 70) = W0 at *
 obtain ⟨g2, hg2⟩ : ∃ x, x = w.heap.size := ⟨_, rfl⟩
 have hbw : Hid (Below w.heap.size w W0) := hbw0
 rw [← hg2] at x2 x3 x4 x5 hzz ⊢
 generalize hg3 : g2 + 1 = g3 at *
 generalize hg4 : g3 + 1 = g4 at *
 generalize hg5 : g4 + 1 = g5 at *
 have hw4 : Hid (w.heap.size ≤ g4) := by show _ ≤ _; omega
 have hw5 : Hid (w.heap.size ≤ g5) := by show _ ≤ _; omega
 have hne45 : Hid (g4 ≠ g5) := by show _ ≠ _; omega
 have hne43 : Hid (g4 ≠ g3) := by show _ ≠ _; omega
 have hne54 : Hid (g5 ≠ g4) := by show _ ≠ _; omega
 have hq4 : Hid (g4 < W0.heap.size) := by show _ < _; omega
 have hq5 : Hid (g5 < W0.heap.size) := by show _ < _; omega
 replace hg2 := Lib.hid hg2
 replace hg3 := Lib.hid hg3
 replace hg4 := Lib.hid hg4
 replace hg5 := Lib.hid hg5
 replace hzz := Lib.hid hzz
 obtain ⟨y0, y1, y2, -, -, -⟩ := box3_cells x2
 have hv1 := Lib.hid (hvd W0 ss)
 clear hbw0 hvd
 go_wp2_with fail
 refine hv1.out.mono ?_
 rintro e W1 ⟨rfl, hb1⟩
 replace x2 := x2.below hb1
 replace x3 := x3.below hb1
 replace x4 := x4.below hb1
 replace x5 := x5.below hb1
 replace ss := seesB_of ss (Nat.le_refl _) hb1
 replace sp := seesB_of sp (Nat.le_refl _) hb1
 replace hbw := Lib.hid (bgo hbw.out hb1)
 replace hq4 := Lib.hid (Nat.lt_of_lt_of_le hq4.out hb1.size)
 replace hq5 := Lib.hid (Nat.lt_of_lt_of_le hq5.out hb1.size)
 clear hv1 y0 y1 y2 hb1
 obtain ⟨y0, y1, y2, y3, y4⟩ := box5_cells x3
 replace hfo := Lib.hid hfo
 dsimp only
 go_wp2_with fail
 refine (hfo.out _).mono ?_
 rintro e W2 ⟨rfl, hb1⟩
 replace x2 := x2.below hb1
 replace x3 := x3.below hb1
 replace x4 := Lib.hid (x4.below hb1)
 replace x5 := Lib.hid (x5.below hb1)
 replace ss := seesB_of ss (Nat.le_refl _) hb1
 replace sp := seesB_of sp (Nat.le_refl _) hb1
 replace hbw := Lib.hid (bgo hbw.out hb1)
 replace hq4 := Lib.hid (Nat.lt_of_lt_of_le hq4.out hb1.size)
 replace hq5 := Lib.hid (Nat.lt_of_lt_of_le hq5.out hb1.size)
 clear hfo y0 y1 y2 y3 y4 hb1
 have htx := Lib.hid (fun W (hW : Below W2.heap.size W2 W) => htx0 W (seesB_of sp (Nat.le_refl _) hW))
 have hsn := Lib.hid (fun W v (hW : Below W2.heap.size W2 W) (hv : SeesB W W.heap.size v M) => hsn0 W v (seesB_of ss (Nat.le_refl _) hW) hv)
 have K : Hid (∀ W : World, Below W2.heap.size W2 W → W.cell? ⟨g2, 0, none⟩ = some (.slice As sd.length cs) ∧ W.cell? ⟨g2, 1, none⟩ = some (.int .i64 0) ∧ W.cell? ⟨g2, 2, none⟩ = some (.int .i64 0) ∧ W.cell? ⟨g3, 0, none⟩ = some (.string S0) ∧ W.cell? ⟨g3, 1, none⟩ = some (.slice Ap p.length cp) ∧ W.cell? ⟨g3, 2, none⟩ = some (.int .i64 f) ∧ W.cell? ⟨g3, 3, none⟩ = some (.int .i64 t) ∧ W.cell? ⟨g3, 4, none⟩ = some (.slice none 0 0)) := fun W hW => ⟨(x2.below hW).cell 0, (x2.below hW).cell 1, (x2.below hW).cell 2, box5_cells (x3.below hW)⟩
 have hbC := Lib.hid (bdrew W2)
 have sp2 := Lib.hid sp
 have x33 := Lib.hid x3
 clear htx0 hsn0 ss sp x2 x3
 dsimp only
 go_wp2_with fail
 go_cut [7, 8, 9] (fun v7 v8 v9 W => CrsM W2 sd SG v7 v8 v9 W)
 case first =>
  refine wp_region_J (fun W' : World => W'.cell? ⟨g2, 0, none⟩ = some (.slice As sd.length cs) ∧ W'.cell? ⟨g2, 1, none⟩ = some (.int .i64 0) ∧ W'.cell? ⟨g2, 2, none⟩ = some (.int .i64 0) ∧ W'.cell? ⟨g3, 0, none⟩ = some (.string S0) ∧ W'.cell? ⟨g3, 1, none⟩ = some (.slice Ap p.length cp) ∧ W'.cell? ⟨g3, 2, none⟩ = some (.int .i64 f) ∧ W'.cell? ⟨g3, 3, none⟩ = some (.int .i64 t) ∧ W'.cell? ⟨g3, 4, none⟩ = some (.slice none 0 0)) 9 (by kernel_rfl) ?_ (fun hHeld => ?_)
  · (try dsimp only); (first | exact K.out _ hbC.out | exact K.out _ (bdrew W2))
  generalize W2.drew = X at *
  refine wpAnyJ_take (i := 0) (v := ?_) rfl (by kernel_rfl) (by kernel_rfl) (by kernel_rfl) (fun _ _ _ h => h) (by rfl) rfl (by kernel_rfl) (by kernel_rfl) (Or.inl ⟨by rfl, ?_⟩) (by assumption) ?_
  rotate_left 1
  · intro w hSw; (try dsimp only at hSw); go_simp <;> (try with_reducible rfl)
  try simp only [Act.put, List.getElem_toArray, List.getElem_cons_succ, List.getElem_cons_zero, List.setIfInBounds_toArray, List.set_cons_zero, List.set_cons_succ]
  refine wpAnyJ_take (i := 1) (v := ?_) rfl (by kernel_rfl) (by kernel_rfl) (by kernel_rfl) (fun _ _ _ h => h) (by rfl) rfl (by kernel_rfl) (by kernel_rfl) (Or.inl ⟨by rfl, ?_⟩) (by assumption) ?_
  rotate_left 1
  · intro w hSw; (try dsimp only at hSw); go_simp <;> (try with_reducible rfl)
  try simp only [Act.put, List.getElem_toArray, List.getElem_cons_succ, List.getElem_cons_zero, List.setIfInBounds_toArray, List.set_cons_zero, List.set_cons_succ]
  refine wpAnyJ_ready (rs := [2, 8]) (by kernel_rfl) (by simp) ?_
  refine AllReadyJ.cons (o := _) rfl (fun Kq hKq => ?_) ?_
  · go_simp
    go_at_call 115
    refine (htx.out X hbC.out).mono ?_
    rintro e X ⟨vM, rfl, hM, hal⟩
    obtain ⟨AM, cM, rfl, -, -⟩ := hM.sees.mk_
    replace hM := hM.sees
    replace hbC := Lib.hid (bgo hbC.out hal)
    clear hal
    go_wp2_with fail
    refine hKq.out _ _ ?_ (fun hHeld => ?_)
    · intro _; (try dsimp only); (first | exact K.out _ hbC.out | exact K.out _ (bdrew W2))
    clear hKq Kq
    try simp only [Act.put, List.getElem_toArray, List.getElem_cons_succ, List.getElem_cons_zero, List.setIfInBounds_toArray, List.set_cons_zero, List.set_cons_succ]
    refine wpAnyJ_ready (rs := [3, 8]) (by kernel_rfl) (by simp) ?_
    refine AllReadyJ.cons (o := _) rfl (fun Kq hKq => ?_) ?_
    · go_simp
      go_at_call 114
      have hfz := hbC.out.size
      refine (hsn.out X _ hbC.out hM).mono ?_
      rintro e X ⟨vV, vG, rfl, hV, hG, fG, hal⟩
      obtain ⟨AV, cV, rfl, -, -⟩ := hV.mk_
      obtain ⟨AG, cG, rfl, -, -⟩ := hG.mk_
      replace hM := seesB_of hM (Nat.le_refl _) hal
      replace hbC := Lib.hid (bgo hbC.out hal)
      replace fG := fG.mono hfz
      clear hal hfz
      go_wp2_with fail
      refine hKq.out _ _ ?_ (fun hHeld => ?_)
      · intro _; (try dsimp only); (first | exact K.out _ hbC.out | exact K.out _ (bdrew W2))
      clear hKq Kq
      try simp only [Act.put, List.getElem_toArray, List.getElem_cons_succ, List.getElem_cons_zero, List.setIfInBounds_toArray, List.set_cons_zero, List.set_cons_succ]
      refine wpAnyJ_take0 (i := 4) (v := ?_) rfl (by kernel_rfl) (by kernel_rfl) (by kernel_rfl) (fun _ _ _ h => h) (by rfl) (Or.inl ⟨by rfl, ?_⟩) (by assumption) ?_
      rotate_left 1
      · intro w hSw; (try dsimp only at hSw); go_simp <;> (try with_reducible rfl)
      try simp only [Act.put, List.getElem_toArray, List.getElem_cons_succ, List.getElem_cons_zero, List.setIfInBounds_toArray, List.set_cons_zero, List.set_cons_succ]
      refine wpAnyJ_take0 (i := 5) (v := ?_) rfl (by kernel_rfl) (by kernel_rfl) (by kernel_rfl) (fun _ _ _ h => h) (by rfl) (Or.inl ⟨by rfl, ?_⟩) (by assumption) ?_
      rotate_left 1
      · intro w hSw; (try dsimp only at hSw); go_simp <;> (try with_reducible rfl)
      try simp only [Act.put, List.getElem_toArray, List.getElem_cons_succ, List.getElem_cons_zero, List.setIfInBounds_toArray, List.set_cons_zero, List.set_cons_succ]
      refine wpAnyJ_take0 (i := 6) (v := ?_) rfl (by kernel_rfl) (by kernel_rfl) (by kernel_rfl) (fun _ _ _ h => h) (by rfl) (Or.inl ⟨by rfl, ?_⟩) (by assumption) ?_
      rotate_left 1
      · intro w hSw; (try dsimp only at hSw); go_simp <;> (try with_reducible rfl)
      try simp only [Act.put, List.getElem_toArray, List.getElem_cons_succ, List.getElem_cons_zero, List.setIfInBounds_toArray, List.set_cons_zero, List.set_cons_succ]
      refine wpAnyJ_take0 (i := 7) (v := ?_) rfl (by kernel_rfl) (by kernel_rfl) (by kernel_rfl) (fun _ _ _ h => h) (by rfl) (Or.inl ⟨by rfl, ?_⟩) (by assumption) ?_
      rotate_left 1
      · intro w hSw; (try dsimp only at hSw); go_simp <;> (try with_reducible rfl)
      try simp only [Act.put, List.getElem_toArray, List.getElem_cons_succ, List.getElem_cons_zero, List.setIfInBounds_toArray, List.set_cons_zero, List.set_cons_succ]
      refine wpAnyJ_ready (rs := [8]) (by kernel_rfl) (by simp) ?_
      refine AllReadyJ.cons (o := _) rfl (fun Kq hKq => ?_) ?_
      · go_simp
        have hal := balloc X (.cells #[.slice none 0 0, .int .i64 0, .int .i64 0] 27)
        have hZ := Box.new X 27 [.slice none 0 0, .int .i64 0, .int .i64 0]
        change Box (X.alloc (.cells #[.slice none 0 0, .int .i64 0, .int .i64 0] 27)) _ _ _ at hZ
        have hg7 := hbC.out.size
        replace hV := seesB_of hV (Nat.le_refl _) hal
        replace hG := seesB_of hG (Nat.le_refl _) hal
        replace hbC := Lib.hid (bgo hbC.out hal)
        clear hal
        generalize X.heap.size = g7 at hZ hg7 ⊢
        generalize X.alloc (.cells #[.slice none 0 0, .int .i64 0, .int .i64 0] 27) = X at *
        obtain ⟨e0, e1, e2, j0, j1, j2⟩ := box3_cells hZ
        refine hKq.out _ _ ?_ (fun hHeld => ?_)
        · intro _; (try dsimp only); (first | exact K.out _ hbC.out | exact K.out _ (bdrew W2))
        clear hKq Kq
        try simp only [Act.put, List.getElem_toArray, List.getElem_cons_succ, List.getElem_cons_zero, List.setIfInBounds_toArray, List.set_cons_zero, List.set_cons_succ]
        refine wpAnyJ_ready (rs := [9]) (by kernel_rfl) (by simp) ?_
        refine AllReadyJ.cons (o := _) rfl (fun Kq hKq => ?_) ?_
        · go_simp
          refine hKq.out _ _ ?_ (fun hHeld => ?_)
          · intro hl; exact absurd hl (by decide)
          clear hKq Kq
          try simp only [Act.put, List.getElem_toArray, List.getElem_cons_succ, List.getElem_cons_zero, List.setIfInBounds_toArray, List.set_cons_zero, List.set_cons_succ]
          refine wpAnyJ_take0 (i := 10) (v := ?_) rfl (by kernel_rfl) (by kernel_rfl) (by kernel_rfl) (fun _ _ _ h => h) (by rfl) (Or.inl ⟨by rfl, ?_⟩) (by assumption) ?_
          rotate_left 1
          · intro w hSw; (try dsimp only at hSw); go_simp <;> (try with_reducible rfl)
          try simp only [Act.put, List.getElem_toArray, List.getElem_cons_succ, List.getElem_cons_zero, List.setIfInBounds_toArray, List.set_cons_zero, List.set_cons_succ]
          refine wpAnyJ_take0 (i := 11) (v := ?_) rfl (by kernel_rfl) (by kernel_rfl) (by kernel_rfl) (fun _ _ _ h => h) (by rfl) (Or.inl ⟨by rfl, ?_⟩) (by assumption) ?_
          rotate_left 1
          · intro w hSw; (try dsimp only at hSw); go_simp <;> (try with_reducible rfl)
          try simp only [Act.put, List.getElem_toArray, List.getElem_cons_succ, List.getElem_cons_zero, List.setIfInBounds_toArray, List.set_cons_zero, List.set_cons_succ]
          refine wpAnyJ_done (by kernel_rfl) ?_ _
          clear e0 e1 e2 j0 j1 j2 hHeld
          go_wp2_with fail
          go_meet
          exact crs_mid hZ hg7 hV hG fG hbC.out
        exact AllReadyJ.nil
      exact AllReadyJ.nil
    refine AllReadyJ.cons (o := _) rfl (fun Kq hKq => ?_) ?_
    · go_simp
      have hal := balloc X (.cells #[.slice none 0 0, .int .i64 0, .int .i64 0] 27)
      have hZ := Box.new X 27 [.slice none 0 0, .int .i64 0, .int .i64 0]
      change Box (X.alloc (.cells #[.slice none 0 0, .int .i64 0, .int .i64 0] 27)) _ _ _ at hZ
      have hg7 := hbC.out.size
      replace hM := seesB_of hM (Nat.le_refl _) hal
      replace hbC := Lib.hid (bgo hbC.out hal)
      clear hal
      generalize X.heap.size = g7 at hZ hg7 ⊢
      generalize X.alloc (.cells #[.slice none 0 0, .int .i64 0, .int .i64 0] 27) = X at *
      refine hKq.out _ _ ?_ (fun hHeld => ?_)
      · intro _; (try dsimp only); (first | exact K.out _ hbC.out | exact K.out _ (bdrew W2))
      clear hKq Kq
      try simp only [Act.put, List.getElem_toArray, List.getElem_cons_succ, List.getElem_cons_zero, List.setIfInBounds_toArray, List.set_cons_zero, List.set_cons_succ]
      refine wpAnyJ_ready (rs := [3]) (by kernel_rfl) (by simp) ?_
      refine AllReadyJ.cons (o := _) rfl (fun Kq hKq => ?_) ?_
      · go_simp
        go_at_call 114
        have hfz := hbC.out.size
        refine (hsn.out X _ hbC.out hM).mono ?_
        rintro e X ⟨vV, vG, rfl, hV, hG, fG, hal⟩
        obtain ⟨AV, cV, rfl, -, -⟩ := hV.mk_
        obtain ⟨AG, cG, rfl, -, -⟩ := hG.mk_
        replace hZ := hZ.below hal
        replace hM := seesB_of hM (Nat.le_refl _) hal
        replace hbC := Lib.hid (bgo hbC.out hal)
        replace fG := fG.mono hfz
        clear hal hfz
        obtain ⟨e0, e1, e2, j0, j1, j2⟩ := box3_cells hZ
        go_wp2_with fail
        refine hKq.out _ _ ?_ (fun hHeld => ?_)
        · intro _; (try dsimp only); (first | exact K.out _ hbC.out | exact K.out _ (bdrew W2))
        clear hKq Kq
        try simp only [Act.put, List.getElem_toArray, List.getElem_cons_succ, List.getElem_cons_zero, List.setIfInBounds_toArray, List.set_cons_zero, List.set_cons_succ]
        refine wpAnyJ_take0 (i := 4) (v := ?_) rfl (by kernel_rfl) (by kernel_rfl) (by kernel_rfl) (fun _ _ _ h => h) (by rfl) (Or.inl ⟨by rfl, ?_⟩) (by assumption) ?_
        rotate_left 1
        · intro w hSw; (try dsimp only at hSw); go_simp <;> (try with_reducible rfl)
        try simp only [Act.put, List.getElem_toArray, List.getElem_cons_succ, List.getElem_cons_zero, List.setIfInBounds_toArray, List.set_cons_zero, List.set_cons_succ]
        refine wpAnyJ_take0 (i := 5) (v := ?_) rfl (by kernel_rfl) (by kernel_rfl) (by kernel_rfl) (fun _ _ _ h => h) (by rfl) (Or.inl ⟨by rfl, ?_⟩) (by assumption) ?_
        rotate_left 1
        · intro w hSw; (try dsimp only at hSw); go_simp <;> (try with_reducible rfl)
        try simp only [Act.put, List.getElem_toArray, List.getElem_cons_succ, List.getElem_cons_zero, List.setIfInBounds_toArray, List.set_cons_zero, List.set_cons_succ]
        refine wpAnyJ_take0 (i := 6) (v := ?_) rfl (by kernel_rfl) (by kernel_rfl) (by kernel_rfl) (fun _ _ _ h => h) (by rfl) (Or.inl ⟨by rfl, ?_⟩) (by assumption) ?_
        rotate_left 1
        · intro w hSw; (try dsimp only at hSw); go_simp <;> (try with_reducible rfl)
        try simp only [Act.put, List.getElem_toArray, List.getElem_cons_succ, List.getElem_cons_zero, List.setIfInBounds_toArray, List.set_cons_zero, List.set_cons_succ]
        refine wpAnyJ_take0 (i := 7) (v := ?_) rfl (by kernel_rfl) (by kernel_rfl) (by kernel_rfl) (fun _ _ _ h => h) (by rfl) (Or.inl ⟨by rfl, ?_⟩) (by assumption) ?_
        rotate_left 1
        · intro w hSw; (try dsimp only at hSw); go_simp <;> (try with_reducible rfl)
        try simp only [Act.put, List.getElem_toArray, List.getElem_cons_succ, List.getElem_cons_zero, List.setIfInBounds_toArray, List.set_cons_zero, List.set_cons_succ]
        refine wpAnyJ_ready (rs := [9]) (by kernel_rfl) (by simp) ?_
        refine AllReadyJ.cons (o := _) rfl (fun Kq hKq => ?_) ?_
        · go_simp
          refine hKq.out _ _ ?_ (fun hHeld => ?_)
          · intro hl; exact absurd hl (by decide)
          clear hKq Kq
          try simp only [Act.put, List.getElem_toArray, List.getElem_cons_succ, List.getElem_cons_zero, List.setIfInBounds_toArray, List.set_cons_zero, List.set_cons_succ]
          refine wpAnyJ_take0 (i := 10) (v := ?_) rfl (by kernel_rfl) (by kernel_rfl) (by kernel_rfl) (fun _ _ _ h => h) (by rfl) (Or.inl ⟨by rfl, ?_⟩) (by assumption) ?_
          rotate_left 1
          · intro w hSw; (try dsimp only at hSw); go_simp <;> (try with_reducible rfl)
          try simp only [Act.put, List.getElem_toArray, List.getElem_cons_succ, List.getElem_cons_zero, List.setIfInBounds_toArray, List.set_cons_zero, List.set_cons_succ]
          refine wpAnyJ_take0 (i := 11) (v := ?_) rfl (by kernel_rfl) (by kernel_rfl) (by kernel_rfl) (fun _ _ _ h => h) (by rfl) (Or.inl ⟨by rfl, ?_⟩) (by assumption) ?_
          rotate_left 1
          · intro w hSw; (try dsimp only at hSw); go_simp <;> (try with_reducible rfl)
          try simp only [Act.put, List.getElem_toArray, List.getElem_cons_succ, List.getElem_cons_zero, List.setIfInBounds_toArray, List.set_cons_zero, List.set_cons_succ]
          refine wpAnyJ_done (by kernel_rfl) ?_ _
          clear e0 e1 e2 j0 j1 j2 hHeld
          go_wp2_with fail
          go_meet
          exact crs_mid hZ hg7 hV hG fG hbC.out
        exact AllReadyJ.nil
      exact AllReadyJ.nil
    exact AllReadyJ.nil
  refine AllReadyJ.cons (o := _) rfl (fun Kq hKq => ?_) ?_
  · go_simp
    have hal := balloc X (.cells #[.slice none 0 0, .int .i64 0, .int .i64 0] 27)
    have hZ := Box.new X 27 [.slice none 0 0, .int .i64 0, .int .i64 0]
    change Box (X.alloc (.cells #[.slice none 0 0, .int .i64 0, .int .i64 0] 27)) _ _ _ at hZ
    have hg7 := hbC.out.size
    replace hbC := Lib.hid (bgo hbC.out hal)
    clear hal
    generalize X.heap.size = g7 at hZ hg7 ⊢
    generalize X.alloc (.cells #[.slice none 0 0, .int .i64 0, .int .i64 0] 27) = X at *
    refine hKq.out _ _ ?_ (fun hHeld => ?_)
    · intro _; (try dsimp only); (first | exact K.out _ hbC.out | exact K.out _ (bdrew W2))
    clear hKq Kq
    try simp only [Act.put, List.getElem_toArray, List.getElem_cons_succ, List.getElem_cons_zero, List.setIfInBounds_toArray, List.set_cons_zero, List.set_cons_succ]
    refine wpAnyJ_ready (rs := [2]) (by kernel_rfl) (by simp) ?_
    refine AllReadyJ.cons (o := _) rfl (fun Kq hKq => ?_) ?_
    · go_simp
      go_at_call 115
      refine (htx.out X hbC.out).mono ?_
      rintro e X ⟨vM, rfl, hM, hal⟩
      obtain ⟨AM, cM, rfl, -, -⟩ := hM.sees.mk_
      replace hM := hM.sees
      replace hZ := hZ.below hal
      replace hbC := Lib.hid (bgo hbC.out hal)
      clear hal
      go_wp2_with fail
      refine hKq.out _ _ ?_ (fun hHeld => ?_)
      · intro _; (try dsimp only); (first | exact K.out _ hbC.out | exact K.out _ (bdrew W2))
      clear hKq Kq
      try simp only [Act.put, List.getElem_toArray, List.getElem_cons_succ, List.getElem_cons_zero, List.setIfInBounds_toArray, List.set_cons_zero, List.set_cons_succ]
      refine wpAnyJ_ready (rs := [3]) (by kernel_rfl) (by simp) ?_
      refine AllReadyJ.cons (o := _) rfl (fun Kq hKq => ?_) ?_
      · go_simp
        go_at_call 114
        have hfz := hbC.out.size
        refine (hsn.out X _ hbC.out hM).mono ?_
        rintro e X ⟨vV, vG, rfl, hV, hG, fG, hal⟩
        obtain ⟨AV, cV, rfl, -, -⟩ := hV.mk_
        obtain ⟨AG, cG, rfl, -, -⟩ := hG.mk_
        replace hZ := hZ.below hal
        replace hM := seesB_of hM (Nat.le_refl _) hal
        replace hbC := Lib.hid (bgo hbC.out hal)
        replace fG := fG.mono hfz
        clear hal hfz
        obtain ⟨e0, e1, e2, j0, j1, j2⟩ := box3_cells hZ
        go_wp2_with fail
        refine hKq.out _ _ ?_ (fun hHeld => ?_)
        · intro _; (try dsimp only); (first | exact K.out _ hbC.out | exact K.out _ (bdrew W2))
        clear hKq Kq
        try simp only [Act.put, List.getElem_toArray, List.getElem_cons_succ, List.getElem_cons_zero, List.setIfInBounds_toArray, List.set_cons_zero, List.set_cons_succ]
        refine wpAnyJ_take0 (i := 4) (v := ?_) rfl (by kernel_rfl) (by kernel_rfl) (by kernel_rfl) (fun _ _ _ h => h) (by rfl) (Or.inl ⟨by rfl, ?_⟩) (by assumption) ?_
        rotate_left 1
        · intro w hSw; (try dsimp only at hSw); go_simp <;> (try with_reducible rfl)
        try simp only [Act.put, List.getElem_toArray, List.getElem_cons_succ, List.getElem_cons_zero, List.setIfInBounds_toArray, List.set_cons_zero, List.set_cons_succ]
        refine wpAnyJ_take0 (i := 5) (v := ?_) rfl (by kernel_rfl) (by kernel_rfl) (by kernel_rfl) (fun _ _ _ h => h) (by rfl) (Or.inl ⟨by rfl, ?_⟩) (by assumption) ?_
        rotate_left 1
        · intro w hSw; (try dsimp only at hSw); go_simp <;> (try with_reducible rfl)
        try simp only [Act.put, List.getElem_toArray, List.getElem_cons_succ, List.getElem_cons_zero, List.setIfInBounds_toArray, List.set_cons_zero, List.set_cons_succ]
        refine wpAnyJ_take0 (i := 6) (v := ?_) rfl (by kernel_rfl) (by kernel_rfl) (by kernel_rfl) (fun _ _ _ h => h) (by rfl) (Or.inl ⟨by rfl, ?_⟩) (by assumption) ?_
        rotate_left 1
        · intro w hSw; (try dsimp only at hSw); go_simp <;> (try with_reducible rfl)
        try simp only [Act.put, List.getElem_toArray, List.getElem_cons_succ, List.getElem_cons_zero, List.setIfInBounds_toArray, List.set_cons_zero, List.set_cons_succ]
        refine wpAnyJ_take0 (i := 7) (v := ?_) rfl (by kernel_rfl) (by kernel_rfl) (by kernel_rfl) (fun _ _ _ h => h) (by rfl) (Or.inl ⟨by rfl, ?_⟩) (by assumption) ?_
        rotate_left 1
        · intro w hSw; (try dsimp only at hSw); go_simp <;> (try with_reducible rfl)
        try simp only [Act.put, List.getElem_toArray, List.getElem_cons_succ, List.getElem_cons_zero, List.setIfInBounds_toArray, List.set_cons_zero, List.set_cons_succ]
        refine wpAnyJ_ready (rs := [9]) (by kernel_rfl) (by simp) ?_
        refine AllReadyJ.cons (o := _) rfl (fun Kq hKq => ?_) ?_
        · go_simp
          refine hKq.out _ _ ?_ (fun hHeld => ?_)
          · intro hl; exact absurd hl (by decide)
          clear hKq Kq
          try simp only [Act.put, List.getElem_toArray, List.getElem_cons_succ, List.getElem_cons_zero, List.setIfInBounds_toArray, List.set_cons_zero, List.set_cons_succ]
          refine wpAnyJ_take0 (i := 10) (v := ?_) rfl (by kernel_rfl) (by kernel_rfl) (by kernel_rfl) (fun _ _ _ h => h) (by rfl) (Or.inl ⟨by rfl, ?_⟩) (by assumption) ?_
          rotate_left 1
          · intro w hSw; (try dsimp only at hSw); go_simp <;> (try with_reducible rfl)
          try simp only [Act.put, List.getElem_toArray, List.getElem_cons_succ, List.getElem_cons_zero, List.setIfInBounds_toArray, List.set_cons_zero, List.set_cons_succ]
          refine wpAnyJ_take0 (i := 11) (v := ?_) rfl (by kernel_rfl) (by kernel_rfl) (by kernel_rfl) (fun _ _ _ h => h) (by rfl) (Or.inl ⟨by rfl, ?_⟩) (by assumption) ?_
          rotate_left 1
          · intro w hSw; (try dsimp only at hSw); go_simp <;> (try with_reducible rfl)
          try simp only [Act.put, List.getElem_toArray, List.getElem_cons_succ, List.getElem_cons_zero, List.setIfInBounds_toArray, List.set_cons_zero, List.set_cons_succ]
          refine wpAnyJ_done (by kernel_rfl) ?_ _
          clear e0 e1 e2 j0 j1 j2 hHeld
          go_wp2_with fail
          go_meet
          exact crs_mid hZ hg7 hV hG fG hbC.out
        exact AllReadyJ.nil
      exact AllReadyJ.nil
    exact AllReadyJ.nil
  exact AllReadyJ.nil
 case rest =>
  obtain ⟨g7, AV, cV, AG, cG, rfl, rfl, rfl, b7, hg7, hG, fG, hb4⟩ := hcut
  obtain ⟨W4, rfl⟩ : ∃ W4 : World, W4 = wc := ⟨_, rfl⟩
  have x7 := Lib.hid b7
  have x3 := Lib.hid (x33.out.below hb4)
  replace x4 := Lib.hid (x4.out.below hb4)
  replace x5 := Lib.hid (x5.out.below hb4)
  have sp4 := Lib.hid (seesB_of sp2.out (Nat.le_refl _) hb4)
  have hG4 := Lib.hid hG
  have fG4 := Lib.hid fG
  have hbw2 := Lib.hid hbw.out.size
  replace hbw := Lib.hid (bgo hbw.out hb4)
  have hlt4' := hq4
  have hlt5' := hq5
  have hlt4 := Lib.hid (Nat.lt_of_lt_of_le hq4.out hb4.size)
  have hlt5 := Lib.hid (Nat.lt_of_lt_of_le hq5.out hb4.size)
  have hne47 : Hid (g4 ≠ g7) := Nat.ne_of_lt (Nat.lt_of_lt_of_le hq4.out hg7)
  have K : Hid (∀ W : World, Below W4.heap.size W4 W → W.cell? ⟨g7, 0, none⟩ = some (.slice AV sd.length cV) ∧ W.cell? ⟨g7, 1, none⟩ = some (.int .i64 0) ∧ W.cell? ⟨g7, 2, none⟩ = some (.int .i64 1) ∧ W.cell? ⟨g3, 0, none⟩ = some (.string S0) ∧ W.cell? ⟨g3, 1, none⟩ = some (.slice Ap p.length cp) ∧ W.cell? ⟨g3, 2, none⟩ = some (.int .i64 f) ∧ W.cell? ⟨g3, 3, none⟩ = some (.int .i64 t)) := fun W hW => ⟨(x7.out.below hW).cell 0, (x7.out.below hW).cell 1, (x7.out.below hW).cell 2, (x3.out.below hW).cell 0, (x3.out.below hW).cell 1, (x3.out.below hW).cell 2, (x3.out.below hW).cell 3⟩
  have hbC := Lib.hid (bdrew W4)
  clear b7 hG fG htx hsn sp2 x33 hb4
  go_wp2_with fail
  refine wp_region_J (fun W' : World => W'.cell? ⟨g7, 0, none⟩ = some (.slice AV sd.length cV) ∧ W'.cell? ⟨g7, 1, none⟩ = some (.int .i64 0) ∧ W'.cell? ⟨g7, 2, none⟩ = some (.int .i64 1) ∧ W'.cell? ⟨g3, 0, none⟩ = some (.string S0) ∧ W'.cell? ⟨g3, 1, none⟩ = some (.slice Ap p.length cp) ∧ W'.cell? ⟨g3, 2, none⟩ = some (.int .i64 f) ∧ W'.cell? ⟨g3, 3, none⟩ = some (.int .i64 t)) 14 (by kernel_rfl) ?_ (fun hHeld => ?_)
  · (try dsimp only); (first | exact K.out _ hbC.out | exact K.out _ (bdrew W4) | exact K.out _ (bgo hbC.out (balloc _ _)) | exact kS)
  generalize W4.drew = X at *
  refine wpAnyJ_take (i := 0) (v := ?_) rfl (by kernel_rfl) (by kernel_rfl) (by kernel_rfl) (fun _ _ _ h => h) (by rfl) rfl (by kernel_rfl) (by kernel_rfl) (Or.inl ⟨by rfl, ?_⟩) (by assumption) ?_
  rotate_left 1
  · intro w hSw; (try dsimp only at hSw); go_simp <;> (try with_reducible rfl)
  try simp only [Act.put, List.getElem_toArray, List.getElem_cons_succ, List.getElem_cons_zero, List.setIfInBounds_toArray, List.set_cons_zero, List.set_cons_succ]
  refine wpAnyJ_take0 (i := 1) (v := ?_) rfl (by kernel_rfl) (by kernel_rfl) (by kernel_rfl) (fun _ _ _ h => h) (by rfl) (Or.inl ⟨by rfl, ?_⟩) (by assumption) ?_
  rotate_left 1
  · intro w hSw; (try dsimp only at hSw); go_simp <;> (try with_reducible rfl)
  try simp only [Act.put, List.getElem_toArray, List.getElem_cons_succ, List.getElem_cons_zero, List.setIfInBounds_toArray, List.set_cons_zero, List.set_cons_succ]
  refine wpAnyJ_take (i := 2) (v := ?_) rfl (by kernel_rfl) (by kernel_rfl) (by kernel_rfl) (fun _ _ _ h => h) (by rfl) rfl (by kernel_rfl) (by kernel_rfl) (Or.inl ⟨by rfl, ?_⟩) (by assumption) ?_
  rotate_left 1
  · intro w hSw; (try dsimp only at hSw); go_simp <;> (try with_reducible rfl)
  try simp only [Act.put, List.getElem_toArray, List.getElem_cons_succ, List.getElem_cons_zero, List.setIfInBounds_toArray, List.set_cons_zero, List.set_cons_succ]
  refine wpAnyJ_take0 (i := 3) (v := ?_) rfl (by kernel_rfl) (by kernel_rfl) (by kernel_rfl) (fun _ _ _ h => h) (by rfl) (Or.inl ⟨by rfl, ?_⟩) (by assumption) ?_
  rotate_left 1
  · intro w hSw; (try dsimp only at hSw); go_simp <;> (try with_reducible rfl)
  try simp only [Act.put, List.getElem_toArray, List.getElem_cons_succ, List.getElem_cons_zero, List.setIfInBounds_toArray, List.set_cons_zero, List.set_cons_succ]
  refine wpAnyJ_take (i := 4) (v := ?_) rfl (by kernel_rfl) (by kernel_rfl) (by kernel_rfl) (fun _ _ _ h => h) (by rfl) rfl (by kernel_rfl) (by kernel_rfl) (Or.inl ⟨by rfl, ?_⟩) (by assumption) ?_
  rotate_left 1
  · intro w hSw; (try dsimp only at hSw); go_simp <;> (try with_reducible rfl)
  try simp only [Act.put, List.getElem_toArray, List.getElem_cons_succ, List.getElem_cons_zero, List.setIfInBounds_toArray, List.set_cons_zero, List.set_cons_succ]
  refine wpAnyJ_take0 (i := 7) (v := ?_) rfl (by kernel_rfl) (by kernel_rfl) (by kernel_rfl) (fun _ _ _ h => h) (by rfl) (Or.inl ⟨by rfl, ?_⟩) (by assumption) ?_
  rotate_left 1
  · intro w hSw; (try dsimp only at hSw); go_simp <;> (try with_reducible rfl)
  try simp only [Act.put, List.getElem_toArray, List.getElem_cons_succ, List.getElem_cons_zero, List.setIfInBounds_toArray, List.set_cons_zero, List.set_cons_succ]
  refine wpAnyJ_take (i := 8) (v := ?_) rfl (by kernel_rfl) (by kernel_rfl) (by kernel_rfl) (fun _ _ _ h => h) (by rfl) rfl (by kernel_rfl) (by kernel_rfl) (Or.inl ⟨by rfl, ?_⟩) (by assumption) ?_
  rotate_left 1
  · intro w hSw; (try dsimp only at hSw); go_simp <;> (try with_reducible rfl)
  try simp only [Act.put, List.getElem_toArray, List.getElem_cons_succ, List.getElem_cons_zero, List.setIfInBounds_toArray, List.set_cons_zero, List.set_cons_succ]
  refine wpAnyJ_take0 (i := 9) (v := ?_) rfl (by kernel_rfl) (by kernel_rfl) (by kernel_rfl) (fun _ _ _ h => h) (by rfl) (Or.inl ⟨by rfl, ?_⟩) (by assumption) ?_
  rotate_left 1
  · intro w hSw; (try dsimp only at hSw); go_simp <;> (try with_reducible rfl)
  try simp only [Act.put, List.getElem_toArray, List.getElem_cons_succ, List.getElem_cons_zero, List.setIfInBounds_toArray, List.set_cons_zero, List.set_cons_succ]
  refine wpAnyJ_take (i := 10) (v := ?_) rfl (by kernel_rfl) (by kernel_rfl) (by kernel_rfl) (fun _ _ _ h => h) (by rfl) rfl (by kernel_rfl) (by kernel_rfl) (Or.inl ⟨by rfl, ?_⟩) (by assumption) ?_
  rotate_left 1
  · intro w hSw; (try dsimp only at hSw); go_simp <;> (try with_reducible rfl)
  try simp only [Act.put, List.getElem_toArray, List.getElem_cons_succ, List.getElem_cons_zero, List.setIfInBounds_toArray, List.set_cons_zero, List.set_cons_succ]
  refine wpAnyJ_take0 (i := 11) (v := ?_) rfl (by kernel_rfl) (by kernel_rfl) (by kernel_rfl) (fun _ _ _ h => h) (by rfl) (Or.inl ⟨by rfl, ?_⟩) (by assumption) ?_
  rotate_left 1
  · intro w hSw; (try dsimp only at hSw); go_simp <;> (try with_reducible rfl)
  try simp only [Act.put, List.getElem_toArray, List.getElem_cons_succ, List.getElem_cons_zero, List.setIfInBounds_toArray, List.set_cons_zero, List.set_cons_succ]
  refine wpAnyJ_ready (rs := [5]) (by kernel_rfl) (by simp) ?_
  refine AllReadyJ.cons (o := _) rfl (fun Kq hKq => ?_) ?_
  · go_simp
    refine hKq.out _ _ ?_ (fun hHeld => ?_)
    · intro _; (try dsimp only); (first | exact K.out _ hbC.out | exact K.out _ (bdrew W4) | exact K.out _ (bgo hbC.out (balloc _ _)) | exact kS)
    clear hKq Kq
    try simp only [Act.put, List.getElem_toArray, List.getElem_cons_succ, List.getElem_cons_zero, List.setIfInBounds_toArray, List.set_cons_zero, List.set_cons_succ]
    refine wpAnyJ_ready (rs := [6]) (by kernel_rfl) (by simp) ?_
    refine AllReadyJ.cons (o := _) rfl (fun Kq hKq => ?_) ?_
    · go_simp
      go_at_call 85
      refine (rjoin_lit (vs := [.slice Ap p.length cp]) (p :: []) X X X.heap.size rfl (Below.refl _ _) ⟨seesB_of sp4.out (Nat.le_refl _) hbC.out, trivial⟩ (by simp) (by have := hwp.out; simp; omega)).mono ?_
      rintro e X ⟨vP, rfl, hP0, hal⟩
      obtain ⟨AP, cP, rfl, -, -⟩ := hP0.sees.mk_
      have hP := hP0.sees
      have fP := (OwnB.from hP0).mono hbC.out.size
      rw [show (p :: []).flatten = p by simp] at hP fP ⊢
      clear hP0
      replace hbC := Lib.hid (bgo hbC.out hal)
      clear hal
      have hG := seesB_of hG4.out (Nat.le_refl _) hbC.out
      have b4 := x4.out.below hbC.out
      have b5 := x5.out.below hbC.out
      have b7 := x7.out.below hbC.out
      have b3 := x3.out.below hbC.out
      obtain ⟨e0, e1, e2, j0, j1, j2⟩ := box3_cells b4
      go_wp2_with fail
      refine hKq.out _ _ ?_ (fun hHeld => ?_)
      · intro _; (try dsimp only); (first | exact K.out _ hbC.out | exact K.out _ (bdrew W4) | exact K.out _ (bgo hbC.out (balloc _ _)) | exact kS)
      clear hKq Kq
      try simp only [Act.put, List.getElem_toArray, List.getElem_cons_succ, List.getElem_cons_zero, List.setIfInBounds_toArray, List.set_cons_zero, List.set_cons_succ]
      refine wpAnyJ_take0 (i := 12) (v := ?_) rfl (by kernel_rfl) (by kernel_rfl) (by kernel_rfl) (fun _ _ _ h => h) (by rfl) (Or.inl ⟨by rfl, ?_⟩) (by assumption) ?_
      rotate_left 1
      · intro w hSw; (try dsimp only at hSw); go_simp <;> (try with_reducible rfl)
      try simp only [Act.put, List.getElem_toArray, List.getElem_cons_succ, List.getElem_cons_zero, List.setIfInBounds_toArray, List.set_cons_zero, List.set_cons_succ]
      refine wpAnyJ_ready (rs := [13]) (by kernel_rfl) (by simp) ?_
      refine AllReadyJ.cons (o := _) rfl (fun Kq hKq => ?_) ?_
      · go_simp
        have c4 := lset3 b4 (.slice AV sd.length cV) (.int .i64 0) (.int .i64 1)
        have c5 := off3 b5 hne45.out (.slice AV sd.length cV) (.int .i64 0) (.int .i64 1)
        have c7 := off3 b7 hne47.out (.slice AV sd.length cV) (.int .i64 0) (.int .i64 1)
        have c3 := off3 b3 hne43.out (.slice AV sd.length cV) (.int .i64 0) (.int .i64 1)
        have hP2 := far3 hP fP hlt4.out (.slice AV sd.length cV) (.int .i64 0) (.int .i64 1)
        have hG2 := far3 hG fG4.out hlt4'.out (.slice AV sd.length cV) (.int .i64 0) (.int .i64 1)
        have hb2 := Lib.hid (below_set3 (bgo hbw.out hbC.out) hw4.out (.slice AV sd.length cV) (.int .i64 0) (.int .i64 1))
        clear e0 e1 e2 j0 j1 j2 b4 b5 b7 b3 hP hG
        generalize ((X.setCell ⟨g4, 0, none⟩ (.slice AV sd.length cV)).setCell ⟨g4, 1, none⟩ (.int .i64 0)).setCell ⟨g4, 2, none⟩ (.int .i64 1) = Y at *
        have kS := (show Y.cell? ⟨g7, 0, none⟩ = some (.slice AV sd.length cV) ∧ Y.cell? ⟨g7, 1, none⟩ = some (.int .i64 0) ∧ Y.cell? ⟨g7, 2, none⟩ = some (.int .i64 1) ∧ Y.cell? ⟨g3, 0, none⟩ = some (.string S0) ∧ Y.cell? ⟨g3, 1, none⟩ = some (.slice Ap p.length cp) ∧ Y.cell? ⟨g3, 2, none⟩ = some (.int .i64 f) ∧ Y.cell? ⟨g3, 3, none⟩ = some (.int .i64 t) from ⟨c7.cell 0, c7.cell 1, c7.cell 2, c3.cell 0, c3.cell 1, c3.cell 2, c3.cell 3⟩)
        obtain ⟨e0, e1, e2, e3, e4⟩ := box5_cells c5
        have j0 := c5.frozen 0
        have j1 := c5.frozen 1
        have j2 := c5.frozen 2
        have j3 := c5.frozen 3
        have j4 := c5.frozen 4
        refine hKq.out _ _ ?_ (fun hHeld => ?_)
        · intro _; (try dsimp only); (first | exact K.out _ hbC.out | exact K.out _ (bdrew W4) | exact K.out _ (bgo hbC.out (balloc _ _)) | exact kS)
        clear hKq Kq
        try simp only [Act.put, List.getElem_toArray, List.getElem_cons_succ, List.getElem_cons_zero, List.setIfInBounds_toArray, List.set_cons_zero, List.set_cons_succ]
        refine wpAnyJ_ready (rs := [14]) (by kernel_rfl) (by simp) ?_
        refine AllReadyJ.cons (o := _) rfl (fun Kq hKq => ?_) ?_
        · go_simp
          refine hKq.out _ _ ?_ (fun hHeld => ?_)
          · intro hl; exact absurd hl (by decide)
          clear hKq Kq
          try simp only [Act.put, List.getElem_toArray, List.getElem_cons_succ, List.getElem_cons_zero, List.setIfInBounds_toArray, List.set_cons_zero, List.set_cons_succ]
          refine wpAnyJ_take0 (i := 15) (v := ?_) rfl (by kernel_rfl) (by kernel_rfl) (by kernel_rfl) (fun _ _ _ h => h) (by rfl) (Or.inl ⟨by rfl, ?_⟩) (by assumption) ?_
          rotate_left 1
          · intro w hSw; (try dsimp only at hSw); go_simp <;> (try with_reducible rfl)
          try simp only [Act.put, List.getElem_toArray, List.getElem_cons_succ, List.getElem_cons_zero, List.setIfInBounds_toArray, List.set_cons_zero, List.set_cons_succ]
          refine wpAnyJ_done (by kernel_rfl) ?_ _
          have d5 := set5 c5 (.string S0) (.slice AP p.length cP) (.int .i64 f) (.int .i64 t) (.slice AG SG.length cG)
          have d4 := off5 c4 hne54.out (.string S0) (.slice AP p.length cP) (.int .i64 f) (.int .i64 t) (.slice AG SG.length cG)
          have hP3 := far5 hP2 fP hlt5.out (.string S0) (.slice AP p.length cP) (.int .i64 f) (.int .i64 t) (.slice AG SG.length cG)
          have hG3 := far5 hG2 fG4.out hlt5'.out (.string S0) (.slice AP p.length cP) (.int .i64 f) (.int .i64 t) (.slice AG SG.length cG)
          have hb3 := below5 hb2.out hw5.out (.string S0) (.slice AP p.length cP) (.int .i64 f) (.int .i64 t) (.slice AG SG.length cG)
          clear e0 e1 e2 e3 e4 j0 j1 j2 j3 j4 kS hHeld c3 c4 c5 c7 hP2 hG2
          go_wp2_with fail
          generalize ((((Y.setCell ⟨g5, 0, none⟩ (.string S0)).setCell ⟨g5, 1, none⟩ (.slice AP p.length cP)).setCell ⟨g5, 2, none⟩ (.int .i64 f)).setCell ⟨g5, 3, none⟩ (.int .i64 t)).setCell ⟨g5, 4, none⟩ (.slice AG SG.length cG) = Z at *
          have z0 := d4.cell 0
          have z1 := d4.cell 1
          have z2 := d4.cell 2
          obtain ⟨z3, z4, z5, z6, z7⟩ := box5_cells d5
          simp only [List.getElem?_cons_zero, List.getElem?_cons_succ] at z0 z1 z2
          refine bodyPost_ret (v := .tuple #[.agg #[.slice AV sd.length cV, .int .i64 0, .int .i64 1], .agg #[.string S0, .slice AP p.length cP, .int .i64 f, .int .i64 t, .slice AG SG.length cG], .int .i64 0]) (by simp [results, Tryz.results50, go_sem, z0, z1, z2, z3, z4, z5, z6, z7]) rfl ?_
          exact ⟨_, _, _, by rw [hS0.out], ⟨_, _, _, rfl⟩, hP3, by rw [hMM.out, hSG.out]; exact hG3, fP.mono hbw.out.size, fG4.out.mono hbw2.out, hb3⟩
        exact AllReadyJ.nil
      exact AllReadyJ.nil
    exact AllReadyJ.nil
  exact AllReadyJ.nil
end Go.Proofs.YtjgepckncogdaaaGreat

/- What a law leans on beyond the base: contracts, plain functions, walks. Conditions: those of each theorem. -/
import Derived.Test.YtjgepckncogdaaaGreatSCtO
import Derived.Test.YtjgepckncogdaaaGreatTCtC
import Derived.Test.YtjgepckncogdaaaGreatTCtZ
set_option linter.unusedVariables false
set_option linter.unusedSimpArgs false
namespace Go.Proofs.YtjgepckncogdaaaGreat
open Go Go.RowKit
set_option linter.unusedVariables false
set_option linter.unusedSimpArgs false
attribute [local go_sem ↓] Go.wp_at_zero Go.wp_at_succ
def SgK (w : World) (g17 g21 : Nat) (u up u2 : Value) (sd pk p2 : Bs) (h n0 : Int) (xs : List Value) (W : World) : Prop :=
 Box W g21 70 xs ∧ NoByte xs ∧ Box W g17 27 [u, .int .i64 h, .int .i64 n0] ∧ SeesB W W.heap.size u sd ∧ SeesB W W.heap.size up pk ∧ SeesB W W.heap.size u2 p2 ∧ Below w.heap.size w W
theorem noByte_set {xs : List Value} (h : NoByte xs) (j : Nat) {y : Value} (hy : NoB y) : NoByte (xs.set j y) := fun x hx => by
 rcases List.mem_or_eq_of_mem_set hx with h1 | h1
 · exact h x h1
 · rw [h1]; exact hy
theorem sees_put1 {W : World} {g j : Nat} {T : TypeId} {xs : List Value} {u : Value} {l : Bs} (h : Box W g T xs) (n : NoByte xs) (y : Value) (hs : SeesB W W.heap.size u l) : SeesB (W.setCell ⟨g, j, none⟩ y) (W.setCell ⟨g, j, none⟩ y).heap.size u l := by
 have hz : (W.setCell ⟨g, j, none⟩ y).heap.size = W.heap.size := by simp [World.setCell]
 rw [hz]
 exact hs.over (Nat.le_refl _) h n (setCell_grown W g j _)
section
variable {w W W' : World} {g17 g21 : Nat} {u up u2 : Value} {sd pk p2 : Bs} {h n0 : Int} {xs : List Value}
theorem SgK.put (H : SgK w g17 g21 u up u2 sd pk p2 h n0 xs W) (hg : w.heap.size ≤ g21) (hne : g17 ≠ g21) (j : Nat) {y : Value} (hy : NoB y) : SgK w g17 g21 u up u2 sd pk p2 h n0 (xs.set j y) (W.setCell ⟨g21, j, none⟩ y) := by
 obtain ⟨h1, h2, h3, h4, h5, h6, h7⟩ := H
 exact ⟨h1.set j y, noByte_set h2 j hy, h3.other hne, sees_put1 h1 h2 y h4, sees_put1 h1 h2 y h5, sees_put1 h1 h2 y h6, h7.setCell (p := ⟨g21, j, none⟩) hg y⟩
theorem SgK.below (H : SgK w g17 g21 u up u2 sd pk p2 h n0 xs W) (hb : Below W.heap.size W W') : SgK w g17 g21 u up u2 sd pk p2 h n0 xs W' := by
 obtain ⟨h1, h2, h3, h4, h5, h6, h7⟩ := H
 exact ⟨h1.below hb, h2, h3.below hb, seesB_of h4 (Nat.le_refl _) hb, seesB_of h5 (Nat.le_refl _) hb, seesB_of h6 (Nat.le_refl _) hb, bgo h7 hb⟩
end
def SgM (w : World) (g17 g21 : Nat) (u up u2 : Value) (sd pk p2 : Bs) (h n0 : Int) (W : World) : Prop :=
 ∃ (nn : Bs) (f t : Int), nn.length ≤ 40 ∧ SgK w g17 g21 u up u2 sd pk p2 h n0 [.string (strB nn), u2, .int .i64 f, .int .i64 t, .slice none 0 0] W
def SgN (w : World) (g26 : Nat) (v18 : Value) (W : World) : Prop :=
 ∃ (pr nn p sg : Bs) (f t : Int) (u2 u3 : Value), Box W g26 70 [.string (strB nn), u2, .int .i64 f, .int .i64 t, u3] ∧ SeesB W W.heap.size v18 pr ∧ SeesB W W.heap.size u2 p ∧ SeesB W W.heap.size u3 sg ∧ sg.length ≤ 1048576 ∧ Below w.heap.size w W
set_option maxRecDepth 100000 in
set_option maxHeartbeats 8000000 in
theorem csigns_law (v : Int) (wf0 : (Lit.int .i64 v).wf = true) (next : Int) (wf1 : (Lit.int .i64 next).wf = true) (name : Bs) (wn : name.length ≤ maxLen) (fr : Int) (wf3 : (Lit.int .i64 fr).wf = true) (tt : Int) (wf4 : (Lit.int .i64 tt).wf = true) (at_ : Int) (wf5 : (Lit.int .i64 at_).wf = true) (by_ : Int) (wf6 : (Lit.int .i64 by_).wf = true) (how : Int) (wf7 : (Lit.int .i64 how).wf = true) (w : World) :
 Calls Tryz.prog 10 #[.int .i64 v, .int .i64 next, .string (strB name), .int .i64 fr, .int .i64 tt, .int .i64 at_, .int .i64 by_, .int .i64 how] w fun e w' => e = .returned (.bool true) ∧ Below w.heap.size w w' := by
 clear wf0 wf1 wf3 wf4 wf5 wf6 wf7 wn
 have hkn := Lib.hid (fun W => ckn_any W)
 have hsz : (strB name).size = name.length := by simp [strB, ByteArray.size]
 by_cases hlen : name.length ≤ 40
 case neg =>
  have i1 : (40 : Int) < ((strB name).size : Int) := by omega
  generalize strB name = S0 at *
  clear hsz hlen
  go_enter Tryz.func10, Tryz.ntmps10
  go_wp2_with fail
  refine (hkn.out _).mono ?_
  rintro e w1 ⟨rfl, hb1⟩
  dsimp only
  go_wp2_with fail
  go_ret
  exact ⟨rfl, hb1⟩
 have i1 : ¬ (40 : Int) < ((strB name).size : Int) := by omega
 have hS0 := Lib.hid (Eq.refl (strB name))
 generalize hS1 : strB name = S0 at *
 replace hS0 : Hid (strB name = S0) := hS1
 replace hlen := Lib.hid hlen
 clear hsz hS1
 have hsg := Lib.hid (fun v h W => ksignerW_any v h W)
 have hwi := Lib.hid (fun (v m : Int) (h1 : 1 ≤ m) (h2 : m ≤ 4294967296) W => kwithin_any v m h1 h2 W)
 have hfl := Lib.hid (fun u (l : Bs) W (hu : SeesB W W.heap.size u l) (hl : l.length ≤ 1048576) => kflip_any u l at_ by_ W hu hl)
 go_enter Tryz.func10, Tryz.ntmps10
 go_wp2_with fail
 refine (hsg.out _ _ _).mono ?_
 rintro e w1 ⟨v1, v2, sd, pk, rfl, s1, -, -, -, s2, -, hpk, -, hb1⟩
 replace hpk := Lib.hid hpk
 obtain ⟨A1, c1, rfl, -, -⟩ := s1.mk_
 obtain ⟨A2, c2, rfl, -, -⟩ := s2.mk_
 generalize next % 2 = H at *
 have hal := balloc w1 (.cells #[.slice A1 sd.length c1, .int .i64 H, .int .i64 0] 27)
 have x17 := Box.new w1 27 [.slice A1 sd.length c1, .int .i64 H, .int .i64 0]
 change Box (w1.alloc (.cells #[.slice A1 sd.length c1, .int .i64 H, .int .i64 0] 27)) _ _ _ at x17
 dsimp only
 go_upto_region 4 with (fail)
 replace s1 := seesB_of s1 (Nat.le_refl _) hal
 replace s2 := seesB_of s2 (Nat.le_refl _) hal
 have hg17 : Hid (w.heap.size ≤ w1.heap.size) := hb1.size
 replace hb1 := bgo hb1 hal
 generalize w1.alloc (.cells #[.slice A1 sd.length c1, .int .i64 H, .int .i64 0] 27) = W2 at *
 generalize w1.heap.size = g17 at *
 clear hal
 obtain ⟨y0, y1, y2, j0, j1, j2⟩ := box3_cells x17
 go_wp2_with fail
 refine (hwi.out next 4 (by omega) (by omega) _).mono ?_
 rintro e w3 ⟨rfl, hw⟩
 obtain rfl := hw.symm
 generalize next % 4 = N0 at *
 dsimp only
 go_wp2_with fail
 have n3 := noBL3' (NoB.s A1 sd.length c1) (NoB.i H) (NoB.i 0)
 have x17' : Box (W2.setCell ⟨g17, 2, none⟩ (.int .i64 N0)) g17 27 [.slice A1 sd.length c1, .int .i64 H, .int .i64 N0] := x17.set 2 (.int .i64 N0)
 have s1' := sees_put1 (j := 2) x17 n3 (.int .i64 N0) s1
 have s2' := sees_put1 (j := 2) x17 n3 (.int .i64 N0) s2
 have hb3 := hb1.setCell (p := ⟨g17, 2, none⟩) hg17.out (.int .i64 N0)
 clear x17 s1 s2 hb1 y0 y1 y2 j0 j1 j2 n3
 generalize W2.setCell ⟨g17, 2, none⟩ (.int .i64 N0) = W3 at *
 refine (hsg.out _ _ _).mono ?_
 rintro e w4 ⟨v3, v4, sd2, p2, rfl, s3, -, -, -, s4, -, -, -, hb4⟩
 generalize (0 : Int) % 2 = H2
 obtain ⟨A3, c3, rfl, -, -⟩ := s3.mk_
 obtain ⟨A4, c4, rfl, -, -⟩ := s4.mk_
 replace x17' := x17'.below hb4
 replace s1' := seesB_of s1' (Nat.le_refl _) hb4
 replace s2' := seesB_of s2' (Nat.le_refl _) hb4
 replace hb3 := bgo hb3 hb4
 clear hb4
 have hal := balloc w4 (.cells #[.slice A3 sd2.length c3, .int .i64 H2, .int .i64 0] 27)
 have hal2 := balloc (w4.alloc (.cells #[.slice A3 sd2.length c3, .int .i64 H2, .int .i64 0] 27)) (.cells #[.string S0, .slice A4 p2.length c4, .int .i64 fr, .int .i64 tt, .slice none 0 0] 70)
 have x21 := Box.new (w4.alloc (.cells #[.slice A3 sd2.length c3, .int .i64 H2, .int .i64 0] 27)) 70 [.string S0, .slice A4 p2.length c4, .int .i64 fr, .int .i64 tt, .slice none 0 0]
 change Box ((w4.alloc (.cells #[.slice A3 sd2.length c3, .int .i64 H2, .int .i64 0] 27)).alloc (.cells #[.string S0, .slice A4 p2.length c4, .int .i64 fr, .int .i64 tt, .slice none 0 0] 70)) _ _ _ at x21
 dsimp only
 go_upto_region 7 with (fail)
 have hbA := bgo hal hal2
 have hg17l : g17 < w4.heap.size := x17'.lt
 have P0 : SgK w g17 (w4.heap.size + 1) (.slice A1 sd.length c1) (.slice A2 pk.length c2) (.slice A4 p2.length c4) sd pk p2 H N0 [.string S0, .slice A4 p2.length c4, .int .i64 fr, .int .i64 tt, .slice none 0 0] ((w4.alloc (.cells #[.slice A3 sd2.length c3, .int .i64 H2, .int .i64 0] 27)).alloc (.cells #[.string S0, .slice A4 p2.length c4, .int .i64 fr, .int .i64 tt, .slice none 0 0] 70)) :=
  ⟨by rw [World.size_alloc] at x21; exact x21, noBL5 (NoB.st S0) (NoB.s A4 p2.length c4) (NoB.i fr) (NoB.i tt) (NoB.s none 0 0), x17'.below hbA, seesB_of s1' (Nat.le_refl _) hbA, seesB_of s2' (Nat.le_refl _) hbA, seesB_of s4 (Nat.le_refl _) hbA, bgo hb3 hbA⟩
 have hg21 : w.heap.size ≤ w4.heap.size + 1 := by have := hb3.size; omega
 have hne : g17 ≠ w4.heap.size + 1 := by omega
 clear hal hal2 hbA x21 x17' s1' s2' s3 s4 hb3 hg17l
 generalize (w4.alloc (.cells #[.slice A3 sd2.length c3, .int .i64 H2, .int .i64 0] 27)).alloc (.cells #[.string S0, .slice A4 p2.length c4, .int .i64 fr, .int .i64 tt, .slice none 0 0] 70) = W4 at *
 generalize w4.heap.size + 1 = g21 at *
 generalize w4.heap.size = g19 at *
 obtain ⟨q, hq, hq2⟩ := kmod_nat how 5 (by omega)
 have hw5 := hwi.out how 5 (by omega) (by omega) W4
 rw [hq] at hw5
 replace hw5 := Lib.hid hw5
 replace hq2 := Lib.hid hq2
 replace hne := Lib.hid hne
 replace hg21 := Lib.hid hg21
 replace P0 := Lib.hid P0
 clear hq hw hg17
 go_wp2_with fail
 refine hw5.out.mono ?_
 rintro e w5 ⟨rfl, hw⟩
 obtain rfl := hw.symm
 clear hw5 hw
 dsimp only
 go_upto_block 0 with (fail)
 go_cut [] (fun W => SgM w g17 g21 (.slice A1 sd.length c1) (.slice A2 pk.length c2) (.slice A4 p2.length c4) sd pk p2 H N0 W)
 case first =>
  have h7 := hq2.out
  obtain ⟨z0, z1, z2, z3, z4⟩ := box5_cells P0.out.1
  have fz := fun j => P0.out.1.frozen j
  obtain rfl | rfl | hq5 | rfl : q = 0 ∨ q = 1 ∨ (q = 2 ∨ q = 3 ∨ q = 4) ∨ 5 = q := by omega
  · go_wp2_with fail
    go_meet
    exact ⟨name, fr, tt, hlen.out, by rw [hS0.out]; exact P0.out⟩
  · go_wp2_with fail
    go_meet
    exact ⟨[116, 105, 109, 101, 46, 97, 45, 49], fr, tt, by simp, P0.out.put hg21.out hne.out 0 (NoB.st _)⟩
  · have hwA := Lib.hid (hwi.out fr 100 (by omega) (by omega) W4)
    have hw100 := fun W => hwi.out tt 100 (by omega) (by omega) W
    have a1 := Int.emod_nonneg fr (show (100 : Int) ≠ 0 by omega)
    have a2 := Int.emod_lt_of_pos fr (show (0 : Int) < 100 by omega)
    have b1 := Int.emod_nonneg tt (show (100 : Int) ≠ 0 by omega)
    have b2 := Int.emod_lt_of_pos tt (show (0 : Int) < 100 by omega)
    generalize fr % 100 = F at *
    generalize tt % 100 = T at *
    have iw : IntKind.i64.wrap (F + T) = F + T := by rw [IntKind.wrap_i64]; omega
    have P1 := (P0.out.put hg21.out hne.out 0 (NoB.st { data := #[98] })).put hg21.out hne.out 2 (NoB.i F)
    simp only [List.set_cons_zero, List.set_cons_succ] at P1
    have P1d := P1.below (bdrew _)
    replace hw100 := Lib.hid hw100
    rcases hq5 with rfl | rfl | rfl
    all_goals
     go_wp2_with fail
     refine hwA.out.mono ?_
     rintro e w6 ⟨rfl, hw⟩
     obtain rfl := hw.symm
     clear hw
     dsimp only
     go_upto_region 14 with (fail)
     generalize (W4.setCell ⟨g21, 0, none⟩ (.string { data := #[98] })).setCell ⟨g21, 2, none⟩ (.int .i64 F) = X1 at *
     obtain ⟨-, -, k2, -, -⟩ := box5_cells P1.1
     obtain ⟨y0, y1, k2d, y3, y4⟩ := box5_cells P1d.1
     have j3 := P1d.1.frozen 3
     have hPX := Lib.hid P1d
     clear P1 P1d z0 z1 z2 z3 z4 fz y0 y1 y4
     refine wp_region_J (fun W' : World => W'.cell? ⟨g21, 2, none⟩ = some (.int .i64 F)) 6 (by kernel_rfl) ?_ (fun hHeld => ?_)
     · (try dsimp only); (first | exact k2 | exact k2d)
     generalize X1.drew = X at *
     refine wpAnyJ_take0 (i := 0) (v := ?_) rfl (by kernel_rfl) (by kernel_rfl) (by kernel_rfl) (fun _ _ _ h => h) (by rfl) (Or.inl ⟨by rfl, ?_⟩) (by assumption) ?_
     rotate_left 1
     · intro w hSw; (try dsimp only at hSw); go_simp <;> (try with_reducible rfl)
     try simp only [Act.put, List.getElem_toArray, List.getElem_cons_succ, List.getElem_cons_zero, List.setIfInBounds_toArray, List.set_cons_zero, List.set_cons_succ]
     refine wpAnyJ_take (i := 1) (v := ?_) rfl (by kernel_rfl) (by kernel_rfl) (by kernel_rfl) (fun _ _ _ h => h) (by rfl) rfl (by kernel_rfl) (by kernel_rfl) (Or.inl ⟨by rfl, ?_⟩) (by assumption) ?_
     rotate_left 1
     · intro w hSw; (try dsimp only at hSw); go_simp <;> (try with_reducible rfl)
     try simp only [Act.put, List.getElem_toArray, List.getElem_cons_succ, List.getElem_cons_zero, List.setIfInBounds_toArray, List.set_cons_zero, List.set_cons_succ]
     refine wpAnyJ_take0 (i := 2) (v := ?_) rfl (by kernel_rfl) (by kernel_rfl) (by kernel_rfl) (fun _ _ _ h => h) (by rfl) (Or.inl ⟨by rfl, ?_⟩) (by assumption) ?_
     rotate_left 1
     · intro w hSw; (try dsimp only at hSw); go_simp <;> (try with_reducible rfl)
     try simp only [Act.put, List.getElem_toArray, List.getElem_cons_succ, List.getElem_cons_zero, List.setIfInBounds_toArray, List.set_cons_zero, List.set_cons_succ]
     refine wpAnyJ_ready (rs := [3]) (by kernel_rfl) (by simp) ?_
     refine AllReadyJ.cons (o := _) rfl (fun Kq hKq => ?_) ?_
     · go_simp
       go_at_call 15
       refine (hw100.out X).mono ?_
       rintro e X5 ⟨rfl, hw⟩
       obtain rfl := hw.symm
       clear hw
       go_wp2_with fail
       refine hKq.out _ _ ?_ (fun hHeld => ?_)
       · intro _; (try dsimp only); (first | exact k2 | exact k2d)
       clear hKq Kq
       try simp only [Act.put, List.getElem_toArray, List.getElem_cons_succ, List.getElem_cons_zero, List.setIfInBounds_toArray, List.set_cons_zero, List.set_cons_succ]
       refine wpAnyJ_take0 (i := 4) (v := ?_) rfl (by kernel_rfl) (by kernel_rfl) (by kernel_rfl) (fun _ _ _ h => h) (by rfl) (Or.inl ⟨by rfl, ?_⟩) (by assumption) ?_
       rotate_left 1
       · intro w hSw; (try dsimp only at hSw); go_simp <;> (try with_reducible rfl)
       try simp only [Act.put, List.getElem_toArray, List.getElem_cons_succ, List.getElem_cons_zero, List.setIfInBounds_toArray, List.set_cons_zero, List.set_cons_succ]
       refine wpAnyJ_take0 (i := 5) (v := ?_) rfl (by kernel_rfl) (by kernel_rfl) (by kernel_rfl) (fun _ _ _ h => h) (by rfl) (Or.inl ⟨by rfl, ?_⟩) (by assumption) ?_
       rotate_left 1
       · intro w hSw; (try dsimp only at hSw); go_simp <;> (try with_reducible rfl)
       try simp only [Act.put, List.getElem_toArray, List.getElem_cons_succ, List.getElem_cons_zero, List.setIfInBounds_toArray, List.set_cons_zero, List.set_cons_succ]
       refine wpAnyJ_ready (rs := [6]) (by kernel_rfl) (by simp) ?_
       refine AllReadyJ.cons (o := _) rfl (fun Kq hKq => ?_) ?_
       · go_simp
         refine hKq.out _ _ ?_ (fun hHeld => ?_)
         · intro hl; exact absurd hl (by decide)
         clear hKq Kq
         try simp only [Act.put, List.getElem_toArray, List.getElem_cons_succ, List.getElem_cons_zero, List.setIfInBounds_toArray, List.set_cons_zero, List.set_cons_succ]
         refine wpAnyJ_done (by kernel_rfl) ?_ _
         clear hHeld
         go_wp2_with fail
         go_meet
         exact ⟨98 :: [], F, _, by simp, hPX.out.put hg21.out hne.out 3 (NoB.i _)⟩
       exact AllReadyJ.nil
     exact AllReadyJ.nil
  · omega
 case rest =>
 obtain ⟨nn, f, t, hnn, PM⟩ := hcut
 obtain ⟨W5, rfl⟩ : ∃ W5 : World, W5 = wc := ⟨_, rfl⟩
 obtain ⟨m1, -, m3, m4, m5, m6, m7⟩ := PM
 have hlm := csgAll_len sd H N0 nn p2 f t hnn
 have hsA := fun W (hW : Below W5.heap.size W5 W) => csg_any W.heap.size (.slice A1 sd.length c1) (.slice A4 p2.length c4) sd nn p2 H N0 f t W (seesB_of m4 (Nat.le_refl _) hW) (seesB_of m6 (Nat.le_refl _) hW) (Nat.le_refl _)
 have hsR := fun W (hW : Below W5.heap.size W5 W) => rcsg_any W.heap.size (.slice A1 sd.length c1) (.slice A4 p2.length c4) sd nn p2 H N0 f t W (seesB_of m4 (Nat.le_refl _) hW) (seesB_of m6 (Nat.le_refl _) hW) (Nat.le_refl _)
 unfold CSgAP at hsA hsR
 generalize csgAll sd H N0 nn p2 f t = RR at *
 obtain ⟨sd1, h1, n1, ⟨N1, P1, f1, t1, S1⟩, E1⟩ := RR
 dsimp only at hsA hsR hlm
 obtain ⟨hN1, hL1⟩ := hlm
 generalize strB nn = SN at *
 replace hsA := Lib.hid hsA
 replace hsR := Lib.hid hsR
 replace hN1 := Lib.hid hN1
 replace hL1 := Lib.hid hL1
 have hS1 := Lib.hid (Eq.refl (strB N1))
 generalize hS2 : strB N1 = SB at *
 replace hS1 : Hid (strB N1 = SB) := hS2
 have K : Hid (∀ W : World, Below W5.heap.size W5 W → (W.cell? ⟨g17, 0, none⟩ = some (.slice A1 sd.length c1) ∧ W.cell? ⟨g17, 1, none⟩ = some (.int .i64 H) ∧ W.cell? ⟨g17, 2, none⟩ = some (.int .i64 N0)) ∧ W.cell? ⟨g21, 0, none⟩ = some (.string SN) ∧ W.cell? ⟨g21, 1, none⟩ = some (.slice A4 p2.length c4) ∧ W.cell? ⟨g21, 2, none⟩ = some (.int .i64 f) ∧ W.cell? ⟨g21, 3, none⟩ = some (.int .i64 t) ∧ W.cell? ⟨g21, 4, none⟩ = some (.slice none 0 0)) := fun W hW => ⟨⟨(m3.below hW).cell 0, (m3.below hW).cell 1, (m3.below hW).cell 2⟩, box5_cells (m1.below hW)⟩
 have sP := Lib.hid m5
 have hbw := Lib.hid m7
 clear m1 m3 m4 m5 m6 m7 hnn hS2 hS0 hlen P0 hq2 hne hg21 i1 hsg
 obtain ⟨⟨k0, k1, k2⟩, k3, k4, k5, k6, k7⟩ := K.out W5 (Below.refl _ _)
 go_wp2_with fail
 refine (hsA.out W5 (Below.refl _ _)).mono ?_
 rintro e w6 ⟨v6, v7, v8, rfl, s6, s7, s8, hb6⟩
 obtain ⟨A6, c6, rfl, -, -⟩ := s6.mk_
 obtain ⟨A7, c7, rfl, -, -⟩ := s7.mk_
 obtain ⟨A8, c8, rfl, -, -⟩ := s8.mk_
 have al1 := balloc w6 (.cells #[.slice A6 sd1.length c6, .int .i64 h1, .int .i64 n1] 27)
 have x22 := Box.new w6 27 [.slice A6 sd1.length c6, .int .i64 h1, .int .i64 n1]
 change Box (w6.alloc (.cells #[.slice A6 sd1.length c6, .int .i64 h1, .int .i64 n1] 27)) _ _ _ at x22
 have al2 := balloc (w6.alloc (.cells #[.slice A6 sd1.length c6, .int .i64 h1, .int .i64 n1] 27)) (.cells #[.string SB, .slice A7 P1.length c7, .int .i64 f1, .int .i64 t1, .slice A8 S1.length c8] 70)
 have x23 := Box.new (w6.alloc (.cells #[.slice A6 sd1.length c6, .int .i64 h1, .int .i64 n1] 27)) 70 [.string SB, .slice A7 P1.length c7, .int .i64 f1, .int .i64 t1, .slice A8 S1.length c8]
 change Box ((w6.alloc (.cells #[.slice A6 sd1.length c6, .int .i64 h1, .int .i64 n1] 27)).alloc (.cells #[.string SB, .slice A7 P1.length c7, .int .i64 f1, .int .i64 t1, .slice A8 S1.length c8] 70)) _ _ _ at x23
 rw [World.size_alloc] at x23
 replace x22 := x22.below al2
 have al := bgo al1 al2
 replace s6 := Lib.hid (seesB_of s6 (Nat.le_refl _) al)
 replace s7 := Lib.hid (seesB_of s7 (Nat.le_refl _) al)
 replace s8 := Lib.hid (seesB_of s8 (Nat.le_refl _) al)
 have hb7 := bgo hb6 al
 clear hb6 al al1 al2 k0 k1 k2 k3 k4 k5 k6 k7
 dsimp only
 go_upto_region 16 with (fail)
 generalize (w6.alloc (.cells #[.slice A6 sd1.length c6, .int .i64 h1, .int .i64 n1] 27)).alloc (.cells #[.string SB, .slice A7 P1.length c7, .int .i64 f1, .int .i64 t1, .slice A8 S1.length c8] 70) = W7 at *
 generalize w6.heap.size + 1 = g23 at *
 generalize w6.heap.size = g22 at *
 obtain ⟨⟨k0, k1, k2⟩, k3, k4, k5, k6, k7⟩ := K.out W7 hb7
 have hsR7 := Lib.hid (hsR.out W7 hb7)
 replace hb7 := Lib.hid hb7
 replace x22 := Lib.hid x22
 replace x23 := Lib.hid x23
 clear hsA hsR
 go_wp2_with fail
 refine hsR7.out.mono ?_
 rintro e w8 ⟨v9, v10, v11, rfl, s9, s10, s11, hb8⟩
 obtain ⟨A9, c9, rfl, -, -⟩ := s9.mk_
 obtain ⟨A10, c10, rfl, -, -⟩ := s10.mk_
 obtain ⟨A11, c11, rfl, -, -⟩ := s11.mk_
 have al1 := balloc w8 (.cells #[.slice A9 sd1.length c9, .int .i64 h1, .int .i64 n1] 27)
 have x25 := Box.new w8 27 [.slice A9 sd1.length c9, .int .i64 h1, .int .i64 n1]
 change Box (w8.alloc (.cells #[.slice A9 sd1.length c9, .int .i64 h1, .int .i64 n1] 27)) _ _ _ at x25
 have al2 := balloc (w8.alloc (.cells #[.slice A9 sd1.length c9, .int .i64 h1, .int .i64 n1] 27)) (.cells #[.string SB, .slice A10 P1.length c10, .int .i64 f1, .int .i64 t1, .slice A11 S1.length c11] 70)
 have x26 := Box.new (w8.alloc (.cells #[.slice A9 sd1.length c9, .int .i64 h1, .int .i64 n1] 27)) 70 [.string SB, .slice A10 P1.length c10, .int .i64 f1, .int .i64 t1, .slice A11 S1.length c11]
 change Box ((w8.alloc (.cells #[.slice A9 sd1.length c9, .int .i64 h1, .int .i64 n1] 27)).alloc (.cells #[.string SB, .slice A10 P1.length c10, .int .i64 f1, .int .i64 t1, .slice A11 S1.length c11] 70)) _ _ _ at x26
 rw [World.size_alloc] at x26
 replace x25 := x25.below al2
 have al := bgo al1 al2
 replace s9 := seesB_of s9 (Nat.le_refl _) al
 replace s10 := seesB_of s10 (Nat.le_refl _) al
 replace s11 := seesB_of s11 (Nat.le_refl _) al
 have hb9 := bgo hb8 al
 replace s6 := seesB_of s6.out (Nat.le_refl _) hb9
 replace s7 := seesB_of s7.out (Nat.le_refl _) hb9
 replace s8 := seesB_of s8.out (Nat.le_refl _) hb9
 have x22' := x22.out.below hb9
 have x23' := x23.out.below hb9
 have hb10 := bgo hb7.out hb9
 have sP10 := seesB_of sP.out (Nat.le_refl _) hb10
 have hg26 : w.heap.size ≤ w8.heap.size + 1 := by have := hbw.out.size; have := hb7.out.size; have := hb8.size; omega
 have hbz := bgo hbw.out hb10
 clear hb8 hb9 hb10 al al1 al2 k0 k1 k2 k3 k4 k5 k6 k7 K x22 x23 hb7 sP hbw hsR7
 dsimp only
 go_upto_region 17 with (fail)
 generalize (w8.alloc (.cells #[.slice A9 sd1.length c9, .int .i64 h1, .int .i64 n1] 27)).alloc (.cells #[.string SB, .slice A10 P1.length c10, .int .i64 f1, .int .i64 t1, .slice A11 S1.length c11] 70) = W9 at *
 generalize w8.heap.size + 1 = g26 at *
 generalize w8.heap.size = g25 at *
 obtain ⟨k0, k1, k2, -, -, -⟩ := box3_cells x22'
 obtain ⟨k3, k4, k5, -, -, -⟩ := box3_cells x25
 have hs1 := Lib.hid (rsigsame_any _ _ sd1 h1 n1 W9 s6 s9)
 have hs2 := Lib.hid (fun W (hW : Below W9.heap.size W9 W) => rcertsame_any _ _ _ _ N1 P1 S1 f1 t1 W (seesB_of s7 (Nat.le_refl _) hW) (seesB_of s10 (Nat.le_refl _) hW) (seesB_of s8 (Nat.le_refl _) hW) (seesB_of s11 (Nat.le_refl _) hW))
 rw [hS1.out] at hs2
 replace x23' := Lib.hid x23'
 replace x26 := Lib.hid x26
 replace s10 := Lib.hid s10
 replace s11 := Lib.hid s11
 replace sP10 := Lib.hid sP10
 replace hg26 := Lib.hid hg26
 replace hbz := Lib.hid hbz
 clear s6 s7 s8 s9 x22' x25
 go_wp2_with fail
 refine hs1.out.mono ?_
 rintro e w10 ⟨rfl, hb10⟩
 clear k0 k1 k2 k3 k4 k5 hs1
 obtain ⟨k0, k1, k2, k3, k4⟩ := box5_cells (x23'.out.below hb10)
 obtain ⟨l0, l1, l2, l3, l4⟩ := box5_cells (x26.out.below hb10)
 have hs3 := Lib.hid (hs2.out w10 hb10)
 replace hb10 := Lib.hid hb10
 clear hs2
 dsimp only
 go_wp2_with fail
 refine hs3.out.mono ?_
 rintro e w11 ⟨rfl, hb11⟩
 replace hb10 := bgo hb10.out hb11
 replace x26 := x26.out.below hb10
 replace s10 := seesB_of s10.out (Nat.le_refl _) hb10
 replace s11 := seesB_of s11.out (Nat.le_refl _) hb10
 replace sP10 := seesB_of sP10.out (Nat.le_refl _) hb10
 replace hbz := bgo hbz.out hb10
 clear hs3 hb10 hb11 k0 k1 k2 k3 k4 l0 l1 l2 l3 l4 x23'
 dsimp only
 go_upto_region 19 with (fail)
 obtain ⟨q, hq, hq2⟩ := kmod_nat at_ 6 (by omega)
 have hw6 := hwi.out at_ 6 (by omega) (by omega) w11
 rw [hq] at hw6
 replace hw6 := Lib.hid hw6
 replace hq2 := Lib.hid hq2
 clear hq hwi
 go_wp2_with fail
 refine hw6.out.mono ?_
 rintro e w12 ⟨rfl, hw⟩
 obtain rfl := hw.symm
 clear hw6 hw
 dsimp only
 go_upto_block 1 with (fail)
 go_cut [18] (fun v18 W => SgN w g26 v18 W)
 case first =>
  have h7 := hq2.out
  obtain ⟨z0, z1, z2, z3, z4⟩ := box5_cells x26
  have fz := fun j => x26.frozen j
  have n5 := noBL5 (NoB.st SB) (NoB.s A10 P1.length c10) (NoB.i f1) (NoB.i t1) (NoB.s A11 S1.length c11)
  obtain rfl | rfl | rfl | rfl | hq5 : q = 0 ∨ q = 1 ∨ q = 2 ∨ q = 3 ∨ 4 ≤ q := by omega
  · have hsz : SB.size = N1.length := by rw [← hS1.out]; simp [strB, ByteArray.size]
    have hcat : SB ++ { data := #[98] } = strB (N1 ++ 98 :: []) := by rw [← hS1.out]; apply ByteArray.ext; simp [strB]
    have hz1 : ({ data := #[98] } : ByteArray).size = 1 := rfl
    have hl1 : ¬ (9223372036854775807 < SB.size + ({ data := #[98] } : ByteArray).size) := by have := hN1.out; omega
    have hl2 : ¬ (9223372036854775807 < SB.size + 1) := by have := hN1.out; omega
    have y26 := x26.set 0 (.string (SB ++ { data := #[98] }))
    have y10 := sees_put1 (j := 0) x26 n5 (.string (SB ++ { data := #[98] })) s10
    have y11 := sees_put1 (j := 0) x26 n5 (.string (SB ++ { data := #[98] })) s11
    have yP := sees_put1 (j := 0) x26 n5 (.string (SB ++ { data := #[98] })) sP10
    have yb := hbz.setCell (p := ⟨g26, 0, none⟩) hg26.out (.string (SB ++ { data := #[98] }))
    simp only [List.set_cons_zero] at y26
    have hdone : Hid (SgN w g26 (.slice A2 pk.length c2) (w11.setCell ⟨g26, 0, none⟩ (.string (SB ++ { data := #[98] })))) := ⟨pk, N1 ++ 98 :: [], P1, S1, f1, t1, _, _, by rw [← hcat]; exact y26, yP, y10, y11, by have := hL1.out; omega, yb⟩
    clear hsz hcat hz1 y26 y10 y11 yP yb x26 s10 s11 sP10 hbz n5
    go_wp2_with fail
    go_meet
    exact hdone.out
  · go_wp2_with fail
    go_meet
    exact ⟨pk, N1, P1, S1, _, t1, _, _, by rw [hS1.out]; exact x26.set 2 _, sees_put1 x26 n5 _ sP10, sees_put1 x26 n5 _ s10, sees_put1 x26 n5 _ s11, by have := hL1.out; omega, hbz.setCell (p := ⟨g26, 2, none⟩) hg26.out _⟩
  · have hf := Lib.hid (hfl.out _ S1 w11 s11 (by have := hL1.out; omega))
    go_wp2_with fail
    refine hf.out.mono ?_
    rintro e6 w6 ⟨l', hl', v6, rfl, o6, hb6⟩
    obtain ⟨A6', c6', rfl, -, -⟩ := o6.sees.mk_
    have y26 := x26.below hb6
    have o6' := o6.sees
    have y10 := seesB_of s10 (Nat.le_refl _) hb6
    have yP := seesB_of sP10 (Nat.le_refl _) hb6
    have yb := bgo hbz hb6
    have fz := fun j => y26.frozen j
    replace hl' := Lib.hid hl'
    replace y26 := Lib.hid y26
    clear hf o6 hb6 z0 z1 z2 z3 z4
    obtain ⟨z0, z1, z2, z3, z4⟩ := box5_cells y26.out
    dsimp only
    go_wp2_with fail
    go_meet
    exact ⟨pk, N1, P1, l', f1, t1, _, _, by rw [hS1.out]; exact y26.out.set 4 _, sees_put1 y26.out n5 _ yP, sees_put1 y26.out n5 _ y10, sees_put1 y26.out n5 _ o6', by have := hL1.out; have := hl'.out; omega, yb.setCell (p := ⟨g26, 4, none⟩) hg26.out _⟩
  · have hf := Lib.hid (hfl.out _ pk w11 sP10 (by have := hpk.out; omega))
    go_wp2_with fail
    refine hf.out.mono ?_
    rintro e6 w6 ⟨l', hl', v6, rfl, o6, hb6⟩
    obtain ⟨A6', c6', rfl, -, -⟩ := o6.sees.mk_
    have y26 := x26.below hb6
    have o6' := o6.sees
    have y10 := seesB_of s10 (Nat.le_refl _) hb6
    have y11 := seesB_of s11 (Nat.le_refl _) hb6
    have yb := bgo hbz hb6
    replace hl' := Lib.hid hl'
    clear hf o6 hb6 z0 z1 z2 z3 z4 fz
    dsimp only
    go_wp2_with fail
    go_meet
    exact ⟨l', N1, P1, S1, f1, t1, _, _, by rw [hS1.out]; exact y26, o6', y10, y11, by have := hL1.out; omega, yb⟩
  · have n0 : ¬ (q : Int) = 0 := by omega
    have n1 : ¬ (q : Int) = 1 := by omega
    have n2 : ¬ (q : Int) = 2 := by omega
    have n3 : ¬ (q : Int) = 3 := by omega
    have hdone : Hid (SgN w g26 (.slice A2 pk.length c2) w11) := ⟨pk, N1, P1, S1, f1, t1, _, _, by rw [hS1.out]; exact x26, sP10, s10, s11, by have := hL1.out; omega, hbz⟩
    go_wp2_with fail
    go_meet
    exact hdone.out
 case rest =>
 obtain ⟨W12, rfl⟩ : ∃ W12 : World, W12 = wc := ⟨_, rfl⟩
 clear x26 s10 s11 sP10 hbz hfl hq2
 obtain ⟨pr, nn2, p3, sg, f3, t3, u2, u3, x26, sp, s2, s3, hsl, hbz⟩ := hcut
 obtain ⟨Ap, cp, rfl, -, -⟩ := sp.mk_
 obtain ⟨Au, cu, rfl, -, -⟩ := s2.mk_
 obtain ⟨Av, cv, rfl, -, -⟩ := s3.mk_
 have hcA := fun W (hW : Below W12.heap.size W12 W) => ccheck_any W.heap.size _ _ _ pr nn2 p3 sg f3 t3 W (seesB_of sp (Nat.le_refl _) hW) (seesB_of s2 (Nat.le_refl _) hW) (seesB_of s3 (Nat.le_refl _) hW) (Nat.le_refl _) hsl
 have hcR := fun W (hW : Below W12.heap.size W12 W) => crcheck_any W.heap.size _ _ _ pr nn2 p3 sg f3 t3 W (seesB_of sp (Nat.le_refl _) hW) (seesB_of s2 (Nat.le_refl _) hW) (seesB_of s3 (Nat.le_refl _) hW) (Nat.le_refl _) hsl
 unfold CChkP at hcA hcR
 generalize cchkC pr (nn2, p3, f3, t3, sg) = CC at *
 generalize strB nn2 = SN2 at *
 replace hcA := Lib.hid hcA
 replace hcR := Lib.hid hcR
 replace hbz := Lib.hid hbz
 have K : Hid (∀ W : World, Below W12.heap.size W12 W → W.cell? ⟨g26, 0, none⟩ = some (.string SN2) ∧ W.cell? ⟨g26, 1, none⟩ = some (.slice Au p3.length cu) ∧ W.cell? ⟨g26, 2, none⟩ = some (.int .i64 f3) ∧ W.cell? ⟨g26, 3, none⟩ = some (.int .i64 t3) ∧ W.cell? ⟨g26, 4, none⟩ = some (.slice Av sg.length cv)) := fun W hW => box5_cells (x26.below hW)
 obtain ⟨k0, k1, k2, k3, k4⟩ := K.out W12 (Below.refl _ _)
 clear x26 sp s2 s3 hsl hpk
 go_upto_region 28 with (fail)
 go_region_held3 (fun W' : World => W'.cell? ⟨g26, 0, none⟩ = some (.string SN2) ∧ W'.cell? ⟨g26, 1, none⟩ = some (.slice Au p3.length cu) ∧ W'.cell? ⟨g26, 2, none⟩ = some (.int .i64 f3) ∧ W'.cell? ⟨g26, 3, none⟩ = some (.int .i64 t3) ∧ W'.cell? ⟨g26, 4, none⟩ = some (.slice Av sg.length cv))
  (first | exact K.out _ (by (repeat (first | exact Below.refl _ _ | (refine bgo ?_ (balloc _ _)) | (refine bgo ?_ (bdrew _)) | (refine bgo ?_ (by assumption))))) | (go_keep; done))
  (first
   | (go_at_call 42; refine (hkn.out _).mono ?_; rintro e w5 ⟨rfl, hb5⟩)
   | (go_at_call 53; refine (hcA.out _ (by (repeat (first | exact Below.refl _ _ | (refine bgo ?_ (balloc _ _)) | (refine bgo ?_ (bdrew _)) | (refine bgo ?_ (by assumption)))))).mono ?_; rintro e w6 ⟨rfl, hb6⟩)
   | (go_at_call 54; refine (hcR.out _ (by (repeat (first | exact Below.refl _ _ | (refine bgo ?_ (balloc _ _)) | (refine bgo ?_ (bdrew _)) | (refine bgo ?_ (by assumption)))))).mono ?_; rintro e w7 ⟨rfl, hb7⟩))
 all_goals
  go_wp2_with fail
  go_ret
  exact ⟨by simp, bgo hbz.out (by (repeat (first | exact Below.refl _ _ | (refine bgo ?_ (balloc _ _)) | (refine bgo ?_ (bdrew _)) | (refine bgo ?_ (by assumption)))))⟩
end Go.Proofs.YtjgepckncogdaaaGreat

/- What a law leans on beyond the base: contracts, plain functions, walks. Conditions: those of each theorem. -/
import Derived.Deep.CutBlock
import Derived.Test.YtjgepckncogdaaaGreatZTelP
import Derived.Test.YtjgepckncogdaaaGreatQHonK
namespace Go.Proofs.YtjgepckncogdaaaGreat
open Go Go.RowKit
set_option linter.unusedVariables false
set_option linter.unusedSimpArgs false
attribute [local go_sem ↓] Go.wp_at_zero Go.wp_at_succ
def TelA (wr : World) (lo hi : Int) (v19 v20 : Value) (W : World) : Prop :=
  ∃ g19, v19 = .pointer (some ⟨g19, 0, none⟩) ∧ v20 = .int .i64 0 ∧ Box W g19 24 [.int .i64 lo, .int .i64 hi] ∧ Below wr.heap.size wr W
def TelB (wr : World) (C : Int) (v21 v22 : Value) (W : World) : Prop :=
  ∃ g21, v21 = .pointer (some ⟨g21, 0, none⟩) ∧ v22 = .int .i64 C ∧ Below wr.heap.size wr W
set_option maxRecDepth 100000 in
set_option maxHeartbeats 8000000 in
theorem btells_law (v : Int) (wf0 : (Lit.int .i64 v).wf = true) (n : Int) (wf1 : (Lit.int .i64 n).wf = true) (ht : Int) (wf2 : (Lit.int .i64 ht).wf = true) (lo : Int) (wlo : (Lit.int .u32 lo).wf = true) (wd : Int) (wwd : (Lit.int .u32 wd).wf = true) (w : World) :
    Calls Tryz.prog 3 #[.int .i64 v, .int .i64 n, .int .i64 ht, .int .u32 lo, .int .u32 wd] w fun e w' => e = .returned (.bool true) ∧ Below w.heap.size w w' := by
  have h2 := bounds_u32 wlo
  have h3 := bounds_u32 wwd
  obtain ⟨h21, h22⟩ := h2
  obtain ⟨h31, h32⟩ := h3
  clear wf0 wf1 wf2 wlo wwd
  have hks := Lib.hid (fun x y W => ksigner_any x y W)
  have hwi := Lib.hid (fun (v m : Int) (h1 : 1 ≤ m) (h2 : m ≤ 4294967296) W => kwithin_any v m h1 h2 W)
  have hkn := Lib.hid (fun W => known_any W)
  have hvS : vS (lo - 2147483648) (lo - 2147483648 + wd) = true := by unfold vS; simp; omega
  have hal := balloc w (.cells #[.int .i64 (lo - 2147483648), .int .i64 (lo - 2147483648 + wd)] 24)
  have x11 := Box.new w 24 [.int .i64 (lo - 2147483648), .int .i64 (lo - 2147483648 + wd)]
  change Box (w.alloc (.cells #[.int .i64 (lo - 2147483648), .int .i64 (lo - 2147483648 + wd)] 24)) _ _ _ at x11
  obtain ⟨Q, hQ, hQ2⟩ := kmod_nat v 100 (by omega)
  obtain ⟨q, hq, hq2⟩ := kmod_nat n 5 (by omega)
  go_enter Tryz.func3, Tryz.ntmps3
  go_upto_region 2 with (fail)
  generalize lo - 2147483648 = LO at *
  generalize LO + wd = HI at *
  generalize w.alloc (.cells #[.int .i64 LO, .int .i64 HI] 24) = W0 at *
  generalize hgg : w.heap.size = g11 at x11 ⊢
  replace hgg := Lib.hid hgg
  clear h21 h22 h31 h32
  go_wp2_with fail
  refine (hks.out _ _ _).mono ?_
  rintro e w1 ⟨v1, v2, sd, pk, rfl, s1, hsd, s2, hpk, hpl, hb1⟩
  obtain ⟨A1, c1, rfl, -, -⟩ := s1.mk_
  obtain ⟨A2, c2, rfl, -, -⟩ := s2.mk_
  have hH0 := Int.emod_nonneg ht (show (2 : Int) ≠ 0 by omega)
  have hH1 := Int.emod_lt_of_pos ht (show (0 : Int) < 2 by omega)
  obtain ⟨H, hH⟩ : ∃ H : Nat, ht % 2 = (H : Int) := ⟨(ht % 2).toNat, by omega⟩
  rw [hH] at hpk hH1 ⊢
  have hH2 : H < 2 := by omega
  have hpkG : pk = keyG sd H := by rw [hpk]; exact pubG_key sd H hsd (by omega)
  replace hpkG := Lib.hid hpkG
  have hal1 := balloc w1 (.cells #[.slice A1 sd.length c1, .int .i64 (H : Int), .int .i64 0] 27)
  have x12 := Box.new w1 27 [.slice A1 sd.length c1, .int .i64 (H : Int), .int .i64 0]
  change Box (w1.alloc (.cells #[.slice A1 sd.length c1, .int .i64 (H : Int), .int .i64 0] 27)) _ _ _ at x12
  have hb2 := bgo hb1 hal1
  replace x11 := x11.below hb2
  have hbw := Lib.hid (bgo hal hb2)
  replace s1 := Lib.hid (seesB_of s1 (Nat.le_refl _) hal1)
  replace s2 := Lib.hid (seesB_of s2 (Nat.le_refl _) hal1)
  replace hsd := Lib.hid hsd
  clear hb1 hal hal1 hb2 hks hpk hpl hH hH0 hH1
  dsimp only
  go_upto_region 3 with (fail)
  generalize w1.alloc (.cells #[.slice A1 sd.length c1, .int .i64 (H : Int), .int .i64 0] 27) = W1 at *
  generalize w1.heap.size = g12 at *
  have hw1 := hwi.out v 100 (by omega) (by omega) W1
  have hw2 := hwi.out n 5 (by omega) (by omega) W1
  rw [hQ] at hw1
  rw [hq] at hw2
  replace hw1 := Lib.hid hw1
  replace hw2 := Lib.hid hw2
  obtain ⟨N, hN⟩ : ∃ N : Nat, (1 : Int) + (q : Int) = (N : Int) := ⟨1 + q, by omega⟩
  have hN1 : 1 ≤ N := by omega
  have hN5 : N ≤ 5 := by omega
  have hrn := Lib.hid (fun W => krandoms_any (Q : Int) 32 N W (by omega) (by omega))
  replace hN := Lib.hid hN
  clear hQ hq hwi
  go_wp2_with fail
  refine hw1.out.mono ?_
  rintro e w3 ⟨rfl, hw3⟩
  obtain rfl := hw3.symm
  clear hw3
  dsimp only
  go_wp2_with fail
  refine hw2.out.mono ?_
  rintro e w3 ⟨rfl, hw3⟩
  obtain rfl := hw3.symm
  clear hw3 hw1 hw2
  dsimp only
  go_wp2_with fail
  rw [hN.out]
  refine (hrn.out _).mono ?_
  rintro e w4 ⟨v4, rfl, o4, hb4⟩
  have hln := randsK_len (Q : Int) 32 N
  have h32 := randsK_each (Q : Int) 32 N (by omega)
  have hoth := fun i hi (h2 : 2 ≤ N) => tel_other Q N i (by omega) h2 hN5 hi
  have hg32 : ∀ i, i < N → ((randsK (Q : Int) 32 N).getD i []).length = 32 := fun i hi => h32 _ (by rw [List.getD_eq_getElem?_getD, List.getElem?_eq_getElem (by rw [hln]; exact hi)]; exact List.getElem_mem _)
  generalize randsK (Q : Int) 32 N = ns at *
  have y11 := x11.below hb4
  have y12 := x12.below hb4
  have t1 := seesB_of s1.out (Nat.le_refl _) hb4
  have t2 := seesB_of s2.out (Nat.le_refl _) hb4
  replace hbw := Lib.hid (bgo hbw.out hb4)
  have o4s := o4.sees
  obtain ⟨A4, c4, rfl, -, -⟩ := o4s.mk_
  have han := answer_first (sd := sd) (h := (H : Int)) (ns := ns) (lo := LO) (hi := HI) hsd.out (by omega) (by omega) (by omega) (by omega) h32 hvS
  have hans := answer_any w4.heap.size (.slice A1 sd.length c1) (.slice A4 ns.length c4) sd (H : Int) 0 ns LO HI w4 t1 o4s (Nat.le_refl _) (by omega)
  rw [han, Int.toNat_natCast] at hans
  unfold AnswerP at hans
  replace hans := Lib.hid hans
  replace hln := Lib.hid hln
  replace o4s := Lib.hid o4s
  replace t2 := Lib.hid t2
  obtain ⟨k0, k1, k2, -, -, -⟩ := box3_cells y12
  obtain ⟨k3, k4⟩ := boxT2 y11
  clear x11 x12 s1 s2 hb4 o4 hrn t1 han h32
  dsimp only
  go_wp2_with fail
  refine hans.out.mono ?_
  rintro e w5 ⟨v5, v6, rfl, el5, o6, hb5⟩
  obtain ⟨A5, c5, rfl, -, -⟩ := el5.1.mk_
  have hAL := ansL_len ns (sigG sd H 0 (tBatch ++ partG ns LO HI)) (partG ns LO HI) ns.length
  have hAg := fun i (h : i < ns.length) => ansL_get ns (sigG sd H 0 (tBatch ++ partG ns LO HI)) (partG ns LO HI) ns.length i h
  have hhn : ∀ i, i < ns.length → bverC (keyG sd H) (ns.getD i []) (ansB ns (sigG sd H 0 (tBatch ++ partG ns LO HI)) (partG ns LO HI) i) = 0 ∧ bverLo (keyG sd H) (ns.getD i []) (ansB ns (sigG sd H 0 (tBatch ++ partG ns LO HI)) (partG ns LO HI) i) = LO ∧ bverHi (keyG sd H) (ns.getD i []) (ansB ns (sigG sd H 0 (tBatch ++ partG ns LO HI)) (partG ns LO HI) i) = HI := fun i hi =>
    bver_honest sd H 0 ns i LO HI (by omega) (Nat.pos_of_ne_zero (by simp)) (by have := hln.out; omega) hi (hg32 i (by have := hln.out; omega)) hvS
  have hho : ∀ i, i < ns.length → 2 ≤ N → bverC (keyG sd H) (ns.getD ((i + 1) % N) []) (ansB ns (sigG sd H 0 (tBatch ++ partG ns LO HI)) (partG ns LO HI) i) = 23 := fun i hi hN2 =>
    bver_other _ (hg32 _ (Nat.mod_lt _ (by omega))) sd H 0 ns i LO HI (by omega) (Nat.pos_of_ne_zero (by simp)) (by have := hln.out; omega) hi (hoth i (by have := hln.out; omega) hN2) hvS
  have hle : ∀ i, (ansB ns (sigG sd H 0 (tBatch ++ partG ns LO HI)) (partG ns LO HI) i).length ≤ 1048576 := fun i => by
    have := ans_le ns (sigG sd H 0 (tBatch ++ partG ns LO HI)) (partG ns LO HI) i (by rw [sigG_len]; omega) (part_le ns LO HI)
    have := hln.out
    omega
  rw [← hpkG.out] at hhn hho
  generalize ansB ns (sigG sd H 0 (tBatch ++ partG ns LO HI)) (partG ns LO HI) = AB at *
  generalize ansL ns (sigG sd H 0 (tBatch ++ partG ns LO HI)) (partG ns LO HI) ns.length = AL at *
  have o6s := o6.sees
  obtain ⟨A6, c6, rfl, -, -⟩ := o6s.mk_
  rw [hAL]
  have hal := balloc w5 (.cells #[.slice A5 sd.length c5, .int .i64 (H : Int), .int .i64 1] 27)
  have x15 := Box.new w5 27 [.slice A5 sd.length c5, .int .i64 (H : Int), .int .i64 1]
  change Box (w5.alloc (.cells #[.slice A5 sd.length c5, .int .i64 (H : Int), .int .i64 1] 27)) _ _ _ at x15
  have hb6 := bgo hb5 hal
  replace y11 := y11.below hb6
  replace y12 := y12.below hb6
  have t2' := seesB_of t2.out (Nat.le_refl _) hb6
  have n6 : SeesL (w5.alloc (.cells #[.slice A5 sd.length c5, .int .i64 (H : Int), .int .i64 1] 27)) w4.heap.size (.slice A4 ns.length c4) ns := SeesL.below o4s.out hb6
  have a6 : SeesL (w5.alloc (.cells #[.slice A5 sd.length c5, .int .i64 (H : Int), .int .i64 1] 27)) w5.heap.size (.slice A6 AL.length c6) AL := SeesL.below o6s hal
  have hz45 : w4.heap.size ≤ (w5.alloc (.cells #[.slice A5 sd.length c5, .int .i64 (H : Int), .int .i64 1] 27)).heap.size := hb6.size
  have hz55 : w5.heap.size ≤ (w5.alloc (.cells #[.slice A5 sd.length c5, .int .i64 (H : Int), .int .i64 1] 27)).heap.size := hal.size
  replace hbw := bgo hbw.out hb6
  clear hans o6 o6s o4s el5 hb5 hal hb6 t2 k0 k1 k2 k3 k4 hg32 hoth
  dsimp only
  go_upto_region 5 with (fail)
  generalize w5.alloc (.cells #[.slice A5 sd.length c5, .int .i64 (H : Int), .int .i64 1] 27) = W6 at *
  generalize w5.heap.size = g15 at *
  obtain ⟨k0, k1, k2, -, -, -⟩ := box3_cells y12
  obtain ⟨k3, k4⟩ := boxT2 y11
  obtain ⟨k5, k6, k7, -, -, -⟩ := box3_cells x15
  have hvl := rvalid_any LO HI W6
  rw [hvS] at hvl
  replace hvl := Lib.hid hvl
  have y11' := Lib.hid y11
  replace n6 := Lib.hid n6
  replace a6 := Lib.hid a6
  replace t2' := Lib.hid t2'
  replace hbw := Lib.hid hbw
  replace hAL := Lib.hid hAL
  clear y12 x15 y11
  go_wp2_with fail
  refine hvl.out.mono ?_
  rintro e w7 ⟨rfl, hb7⟩
  have hb70 := Lib.hid hb7
  clear k0 k1 k2 k3 k4 k5 k6 k7 hvl hb7
  dsimp only
  go_wp2_with fail
  go_loopw [18] (fun i wr => ∃ k : Nat, k ≤ ns.length ∧ i = .int .i64 k ∧ Hid (Below W6.heap.size W6 wr)) (fun i _ => ns.length - (intOf i).toNat)
  case atStart => exact ⟨0, by omega, rfl, hb70⟩
  case round =>
    obtain ⟨k, hk, rfl, hbr⟩ := hrel
    by_cases hlt : k < ns.length
    · have hNn : Hid (ns.length = N) := hln
      have hkN : (k + 1) % N < ns.length := by rw [hNn.out]; exact Nat.mod_lt _ (by omega)
      obtain ⟨bn, on, rfl, hbn, hcn⟩ := SeesL.at_ n6.out (by omega)
      obtain ⟨ba, oa, rfl, hba, hca⟩ := SeesL.at_ a6.out (by have := hAL.out; omega)
      obtain ⟨B1, d1, z1, -, -, u1⟩ := hcn k hlt
      obtain ⟨B2, d2, z2, -, -, u2⟩ := hcn ((k + 1) % N) hkN
      obtain ⟨B3, d3, z3, -, -, u3⟩ := hca k (by have := hAL.out; omega)
      rw [hAg k hlt] at z3 u3
      obtain ⟨p1, p2, p3⟩ := hhn k hlt
      have p4 := hho k hlt
      have hbl := hle k
      have bn6 : bn < W6.heap.size := Nat.lt_of_lt_of_le hbn hz45
      have ba6 : ba < W6.heap.size := Nat.lt_of_lt_of_le hba hz55
      have K : Hid (∀ W : World, Below W6.heap.size W6 W → W.cell? ⟨bn, on + k, none⟩ = some (.slice B1 (ns.getD k []).length d1) ∧ W.cell? ⟨ba, oa + k, none⟩ = some (.slice B3 (AB k).length d3) ∧ W.cell? ⟨bn, on + (k + 1) % N, none⟩ = some (.slice B2 (ns.getD ((k + 1) % N) []).length d2)) := fun W hW => ⟨(hW.cell (p := ⟨bn, on + k, none⟩) bn6).trans z1, (hW.cell (p := ⟨ba, oa + k, none⟩) ba6).trans z3, (hW.cell (p := ⟨bn, on + (k + 1) % N, none⟩) bn6).trans z2⟩
      have u1' := u1.more hz45
      have u2' := u2.more hz45
      have u3' := u3.more hz55
      have hv1 := Lib.hid (fun W (hW : Below W6.heap.size W6 W) => bverify_any W.heap.size _ _ _ pk (ns.getD k []) (AB k) W (seesB_of t2'.out (Nat.le_refl _) hW) (seesB_of u1' (Nat.le_refl _) hW) (seesB_of u3' (Nat.le_refl _) hW) (Nat.le_refl _) hbl)
      have hv2 := Lib.hid (fun W (hW : Below W6.heap.size W6 W) => bverify_any W.heap.size _ _ _ pk (ns.getD ((k + 1) % N) []) (AB k) W (seesB_of t2'.out (Nat.le_refl _) hW) (seesB_of u2' (Nat.le_refl _) hW) (seesB_of u3' (Nat.le_refl _) hW) (Nat.le_refl _) hbl)
      unfold BVerP at hv1 hv2
      rw [p1, p2, p3] at hv1
      generalize bverC pk (ns.getD ((k + 1) % N) []) (AB k) = C at *
      generalize bverLo pk (ns.getD ((k + 1) % N) []) (AB k) = L2 at *
      generalize bverHi pk (ns.getD ((k + 1) % N) []) (AB k) = H2' at *
      generalize (ns.getD k []).length = l1 at *
      generalize (ns.getD ((k + 1) % N) []).length = l2 at *
      generalize (AB k).length = l3 at *
      obtain ⟨x0, x1, x2⟩ := K.out wr hbr.out
      have i0 : (0 : Int) ≤ (k : Int) := by omega
      have i1 : (k : Int) < (ns.length : Int) := by omega
      clear hcn hca z1 z2 z3 u1 u2 u3 u1' u2' u3' p1 p2 p3 hbl bn6 ba6 hbn hba hz45 hz55 t2' hhn hho hle hAg
      go_upto_region 10 with (fail)
      go_cut [19, 20] (fun v19 v20 W => TelA wr LO HI v19 v20 W)
      case first =>
        refine wp_region_J (fun W : World => W.cell? ⟨bn, on + k, none⟩ = some (.slice B1 l1 d1) ∧ W.cell? ⟨ba, oa + k, none⟩ = some (.slice B3 l3 d3)) 14 (by kernel_rfl) ?_ (fun hHeld => ?_)
        · (try dsimp only); (first | exact ⟨(K.out _ (bgo hbr.out (bdrew wr))).1, (K.out _ (bgo hbr.out (bdrew wr))).2.1⟩ | exact ⟨(K.out _ (bgo hbr.out hbd.out)).1, (K.out _ (bgo hbr.out hbd.out)).2.1⟩ | exact ⟨(K.out _ (bgo hbr.out (bgo hbd.out hbX.out))).1, (K.out _ (bgo hbr.out (bgo hbd.out hbX.out))).2.1⟩ | exact ⟨(K.out _ (bgo hbr.out (bgo hbd.out hbY.out))).1, (K.out _ (bgo hbr.out (bgo hbd.out hbY.out))).2.1⟩)
        have hbd := Lib.hid (bdrew wr)
        generalize wr.drew = WD at *
        refine wpAnyJ_take0 (i := 0) (v := ?_) rfl (by kernel_rfl) (by kernel_rfl) (by kernel_rfl) (fun _ _ _ h => h) (by rfl) (Or.inl ⟨by rfl, ?_⟩) (by assumption) ?_
        rotate_left 1
        · intro w hSw; (try dsimp only at hSw); go_simp <;> (try with_reducible rfl)
        try simp only [Act.put, List.getElem_toArray, List.getElem_cons_succ, List.getElem_cons_zero, List.setIfInBounds_toArray, List.set_cons_zero, List.set_cons_succ]
        refine wpAnyJ_take0 (i := 1) (v := ?_) rfl (by kernel_rfl) (by kernel_rfl) (by kernel_rfl) (fun _ _ _ h => h) (by rfl) (Or.inl ⟨by rfl, ?_⟩) (by assumption) ?_
        rotate_left 1
        · intro w hSw; (try dsimp only at hSw); go_simp <;> (try with_reducible rfl)
        try simp only [Act.put, List.getElem_toArray, List.getElem_cons_succ, List.getElem_cons_zero, List.setIfInBounds_toArray, List.set_cons_zero, List.set_cons_succ]
        refine wpAnyJ_take0 (i := 2) (v := ?_) rfl (by kernel_rfl) (by kernel_rfl) (by kernel_rfl) (fun _ _ _ h => h) (by rfl) (Or.inl ⟨by rfl, ?_⟩) (by assumption) ?_
        rotate_left 1
        · intro w hSw; (try dsimp only at hSw); go_simp <;> (try with_reducible rfl)
        try simp only [Act.put, List.getElem_toArray, List.getElem_cons_succ, List.getElem_cons_zero, List.setIfInBounds_toArray, List.set_cons_zero, List.set_cons_succ]
        refine wpAnyJ_take0 (i := 3) (v := ?_) rfl (by kernel_rfl) (by kernel_rfl) (by kernel_rfl) (fun _ _ _ h => h) (by rfl) (Or.inl ⟨by rfl, ?_⟩) (by assumption) ?_
        rotate_left 1
        · intro w hSw; (try dsimp only at hSw); go_simp <;> (try with_reducible rfl)
        try simp only [Act.put, List.getElem_toArray, List.getElem_cons_succ, List.getElem_cons_zero, List.setIfInBounds_toArray, List.set_cons_zero, List.set_cons_succ]
        refine wpAnyJ_take (i := 4) (v := ?_) rfl (by kernel_rfl) (by kernel_rfl) (by kernel_rfl) (fun _ _ _ h => h) (by rfl) rfl (by kernel_rfl) (by kernel_rfl) (Or.inl ⟨by rfl, ?_⟩) (by assumption) ?_
        rotate_left 1
        · intro w hSw; (try dsimp only at hSw); go_simp <;> (try with_reducible rfl)
        try simp only [Act.put, List.getElem_toArray, List.getElem_cons_succ, List.getElem_cons_zero, List.setIfInBounds_toArray, List.set_cons_zero, List.set_cons_succ]
        refine wpAnyJ_take0 (i := 5) (v := ?_) rfl (by kernel_rfl) (by kernel_rfl) (by kernel_rfl) (fun _ _ _ h => h) (by rfl) (Or.inl ⟨by rfl, ?_⟩) (by assumption) ?_
        rotate_left 1
        · intro w hSw; (try dsimp only at hSw); go_simp <;> (try with_reducible rfl)
        try simp only [Act.put, List.getElem_toArray, List.getElem_cons_succ, List.getElem_cons_zero, List.setIfInBounds_toArray, List.set_cons_zero, List.set_cons_succ]
        refine wpAnyJ_take0 (i := 6) (v := ?_) rfl (by kernel_rfl) (by kernel_rfl) (by kernel_rfl) (fun _ _ _ h => h) (by rfl) (Or.inl ⟨by rfl, ?_⟩) (by assumption) ?_
        rotate_left 1
        · intro w hSw; (try dsimp only at hSw); go_simp <;> (try with_reducible rfl)
        try simp only [Act.put, List.getElem_toArray, List.getElem_cons_succ, List.getElem_cons_zero, List.setIfInBounds_toArray, List.set_cons_zero, List.set_cons_succ]
        refine wpAnyJ_take0 (i := 7) (v := ?_) rfl (by kernel_rfl) (by kernel_rfl) (by kernel_rfl) (fun _ _ _ h => h) (by rfl) (Or.inl ⟨by rfl, ?_⟩) (by assumption) ?_
        rotate_left 1
        · intro w hSw; (try dsimp only at hSw); go_simp <;> (try with_reducible rfl)
        try simp only [Act.put, List.getElem_toArray, List.getElem_cons_succ, List.getElem_cons_zero, List.setIfInBounds_toArray, List.set_cons_zero, List.set_cons_succ]
        refine wpAnyJ_take (i := 8) (v := ?_) rfl (by kernel_rfl) (by kernel_rfl) (by kernel_rfl) (fun _ _ _ h => h) (by rfl) rfl (by kernel_rfl) (by kernel_rfl) (Or.inl ⟨by rfl, ?_⟩) (by assumption) ?_
        rotate_left 1
        · intro w hSw; (try dsimp only at hSw); go_simp <;> (try with_reducible rfl)
        try simp only [Act.put, List.getElem_toArray, List.getElem_cons_succ, List.getElem_cons_zero, List.setIfInBounds_toArray, List.set_cons_zero, List.set_cons_succ]
        refine wpAnyJ_ready (rs := [9, 13]) (by kernel_rfl) (by simp) ?_
        refine AllReadyJ.cons (o := _) rfl (fun Kq hKq => ?_) ?_
        · go_simp
          go_at_call 18
          refine (hv1.out _ (bgo hbr.out hbd.out)).mono ?_
          rintro e X ⟨rfl, hbX⟩
          replace hbX := Lib.hid hbX
          go_wp2_with fail
          refine hKq.out _ _ ?_ (fun hHeld => ?_)
          · intro _; (try dsimp only); (first | exact ⟨(K.out _ (bgo hbr.out (bdrew wr))).1, (K.out _ (bgo hbr.out (bdrew wr))).2.1⟩ | exact ⟨(K.out _ (bgo hbr.out hbd.out)).1, (K.out _ (bgo hbr.out hbd.out)).2.1⟩ | exact ⟨(K.out _ (bgo hbr.out (bgo hbd.out hbX.out))).1, (K.out _ (bgo hbr.out (bgo hbd.out hbX.out))).2.1⟩ | exact ⟨(K.out _ (bgo hbr.out (bgo hbd.out hbY.out))).1, (K.out _ (bgo hbr.out (bgo hbd.out hbY.out))).2.1⟩)
          clear hKq Kq
          try simp only [Act.put, List.getElem_toArray, List.getElem_cons_succ, List.getElem_cons_zero, List.setIfInBounds_toArray, List.set_cons_zero, List.set_cons_succ]
          refine wpAnyJ_take0 (i := 10) (v := ?_) rfl (by kernel_rfl) (by kernel_rfl) (by kernel_rfl) (fun _ _ _ h => h) (by rfl) (Or.inl ⟨by rfl, ?_⟩) (by assumption) ?_
          rotate_left 1
          · intro w hSw; (try dsimp only at hSw); go_simp <;> (try with_reducible rfl)
          try simp only [Act.put, List.getElem_toArray, List.getElem_cons_succ, List.getElem_cons_zero, List.setIfInBounds_toArray, List.set_cons_zero, List.set_cons_succ]
          refine wpAnyJ_take0 (i := 11) (v := ?_) rfl (by kernel_rfl) (by kernel_rfl) (by kernel_rfl) (fun _ _ _ h => h) (by rfl) (Or.inl ⟨by rfl, ?_⟩) (by assumption) ?_
          rotate_left 1
          · intro w hSw; (try dsimp only at hSw); go_simp <;> (try with_reducible rfl)
          try simp only [Act.put, List.getElem_toArray, List.getElem_cons_succ, List.getElem_cons_zero, List.setIfInBounds_toArray, List.set_cons_zero, List.set_cons_succ]
          refine wpAnyJ_take0 (i := 12) (v := ?_) rfl (by kernel_rfl) (by kernel_rfl) (by kernel_rfl) (fun _ _ _ h => h) (by rfl) (Or.inl ⟨by rfl, ?_⟩) (by assumption) ?_
          rotate_left 1
          · intro w hSw; (try dsimp only at hSw); go_simp <;> (try with_reducible rfl)
          try simp only [Act.put, List.getElem_toArray, List.getElem_cons_succ, List.getElem_cons_zero, List.setIfInBounds_toArray, List.set_cons_zero, List.set_cons_succ]
          refine wpAnyJ_ready (rs := [13]) (by kernel_rfl) (by simp) ?_
          refine AllReadyJ.cons (o := _) rfl (fun Kq hKq => ?_) ?_
          · go_simp
            have hbY := Lib.hid (bgo hbX.out (balloc X (.cells #[.int .i64 0, .int .i64 0] 24)))
            have x19 := Box.new X 24 [.int .i64 0, .int .i64 0]
            change Box (X.alloc (.cells #[.int .i64 0, .int .i64 0] 24)) _ _ _ at x19
            have hg19 : wr.heap.size ≤ X.heap.size := (bgo hbd.out hbX.out).size
            generalize X.alloc (.cells #[.int .i64 0, .int .i64 0] 24) = X3 at *
            generalize X.heap.size = g19 at *
            obtain ⟨e0, e1, e2, e3⟩ := box2_cells x19
            refine hKq.out _ _ ?_ (fun hHeld => ?_)
            · intro _; (try dsimp only); (first | exact ⟨(K.out _ (bgo hbr.out (bdrew wr))).1, (K.out _ (bgo hbr.out (bdrew wr))).2.1⟩ | exact ⟨(K.out _ (bgo hbr.out hbd.out)).1, (K.out _ (bgo hbr.out hbd.out)).2.1⟩ | exact ⟨(K.out _ (bgo hbr.out (bgo hbd.out hbX.out))).1, (K.out _ (bgo hbr.out (bgo hbd.out hbX.out))).2.1⟩ | exact ⟨(K.out _ (bgo hbr.out (bgo hbd.out hbY.out))).1, (K.out _ (bgo hbr.out (bgo hbd.out hbY.out))).2.1⟩)
            clear hKq Kq
            try simp only [Act.put, List.getElem_toArray, List.getElem_cons_succ, List.getElem_cons_zero, List.setIfInBounds_toArray, List.set_cons_zero, List.set_cons_succ]
            refine wpAnyJ_ready (rs := [14]) (by kernel_rfl) (by simp) ?_
            refine AllReadyJ.cons (o := _) rfl (fun Kq hKq => ?_) ?_
            · go_simp
              refine hKq.out _ _ ?_ (fun hHeld => ?_)
              · intro hl; exact absurd hl (by decide)
              clear hKq Kq
              try simp only [Act.put, List.getElem_toArray, List.getElem_cons_succ, List.getElem_cons_zero, List.setIfInBounds_toArray, List.set_cons_zero, List.set_cons_succ]
              refine wpAnyJ_take0 (i := 15) (v := ?_) rfl (by kernel_rfl) (by kernel_rfl) (by kernel_rfl) (fun _ _ _ h => h) (by rfl) (Or.inl ⟨by rfl, ?_⟩) (by assumption) ?_
              rotate_left 1
              · intro w hSw; (try dsimp only at hSw); go_simp <;> (try with_reducible rfl)
              try simp only [Act.put, List.getElem_toArray, List.getElem_cons_succ, List.getElem_cons_zero, List.setIfInBounds_toArray, List.set_cons_zero, List.set_cons_succ]
              refine wpAnyJ_done (by kernel_rfl) ?_ _
              clear hHeld
              go_wp2_with fail
              go_meet
              have hz := box_set2 x19 (.int .i64 LO) (.int .i64 HI)
              exact ⟨_, rfl, rfl, hz, below_set2 (bgo hbd.out hbY.out) hg19 _ _⟩
            exact AllReadyJ.nil
          exact AllReadyJ.nil
        refine AllReadyJ.cons (o := _) rfl (fun Kq hKq => ?_) ?_
        · go_simp
          have hbX := Lib.hid (balloc WD (.cells #[.int .i64 0, .int .i64 0] 24))
          have x19 := Box.new WD 24 [.int .i64 0, .int .i64 0]
          change Box (WD.alloc (.cells #[.int .i64 0, .int .i64 0] 24)) _ _ _ at x19
          have hg19 : wr.heap.size ≤ WD.heap.size := hbd.out.size
          generalize WD.alloc (.cells #[.int .i64 0, .int .i64 0] 24) = X at *
          generalize hgg19 : WD.heap.size = g19 at x19 hg19 ⊢
          clear hgg19
          refine hKq.out _ _ ?_ (fun hHeld => ?_)
          · intro _; (try dsimp only); (first | exact ⟨(K.out _ (bgo hbr.out (bdrew wr))).1, (K.out _ (bgo hbr.out (bdrew wr))).2.1⟩ | exact ⟨(K.out _ (bgo hbr.out hbd.out)).1, (K.out _ (bgo hbr.out hbd.out)).2.1⟩ | exact ⟨(K.out _ (bgo hbr.out (bgo hbd.out hbX.out))).1, (K.out _ (bgo hbr.out (bgo hbd.out hbX.out))).2.1⟩ | exact ⟨(K.out _ (bgo hbr.out (bgo hbd.out hbY.out))).1, (K.out _ (bgo hbr.out (bgo hbd.out hbY.out))).2.1⟩)
          clear hKq Kq
          try simp only [Act.put, List.getElem_toArray, List.getElem_cons_succ, List.getElem_cons_zero, List.setIfInBounds_toArray, List.set_cons_zero, List.set_cons_succ]
          refine wpAnyJ_ready (rs := [9]) (by kernel_rfl) (by simp) ?_
          refine AllReadyJ.cons (o := _) rfl (fun Kq hKq => ?_) ?_
          · go_simp
            go_at_call 18
            refine (hv1.out _ (bgo hbr.out (bgo hbd.out hbX.out))).mono ?_
            rintro e X2 ⟨rfl, hb9⟩
            have hbY := Lib.hid (bgo hbX.out hb9)
            replace x19 := x19.below hb9
            clear hb9
            obtain ⟨e0, e1, e2, e3⟩ := box2_cells x19
            go_wp2_with fail
            refine hKq.out _ _ ?_ (fun hHeld => ?_)
            · intro _; (try dsimp only); (first | exact ⟨(K.out _ (bgo hbr.out (bdrew wr))).1, (K.out _ (bgo hbr.out (bdrew wr))).2.1⟩ | exact ⟨(K.out _ (bgo hbr.out hbd.out)).1, (K.out _ (bgo hbr.out hbd.out)).2.1⟩ | exact ⟨(K.out _ (bgo hbr.out (bgo hbd.out hbX.out))).1, (K.out _ (bgo hbr.out (bgo hbd.out hbX.out))).2.1⟩ | exact ⟨(K.out _ (bgo hbr.out (bgo hbd.out hbY.out))).1, (K.out _ (bgo hbr.out (bgo hbd.out hbY.out))).2.1⟩)
            clear hKq Kq
            try simp only [Act.put, List.getElem_toArray, List.getElem_cons_succ, List.getElem_cons_zero, List.setIfInBounds_toArray, List.set_cons_zero, List.set_cons_succ]
            refine wpAnyJ_take0 (i := 10) (v := ?_) rfl (by kernel_rfl) (by kernel_rfl) (by kernel_rfl) (fun _ _ _ h => h) (by rfl) (Or.inl ⟨by rfl, ?_⟩) (by assumption) ?_
            rotate_left 1
            · intro w hSw; (try dsimp only at hSw); go_simp <;> (try with_reducible rfl)
            try simp only [Act.put, List.getElem_toArray, List.getElem_cons_succ, List.getElem_cons_zero, List.setIfInBounds_toArray, List.set_cons_zero, List.set_cons_succ]
            refine wpAnyJ_take0 (i := 11) (v := ?_) rfl (by kernel_rfl) (by kernel_rfl) (by kernel_rfl) (fun _ _ _ h => h) (by rfl) (Or.inl ⟨by rfl, ?_⟩) (by assumption) ?_
            rotate_left 1
            · intro w hSw; (try dsimp only at hSw); go_simp <;> (try with_reducible rfl)
            try simp only [Act.put, List.getElem_toArray, List.getElem_cons_succ, List.getElem_cons_zero, List.setIfInBounds_toArray, List.set_cons_zero, List.set_cons_succ]
            refine wpAnyJ_take0 (i := 12) (v := ?_) rfl (by kernel_rfl) (by kernel_rfl) (by kernel_rfl) (fun _ _ _ h => h) (by rfl) (Or.inl ⟨by rfl, ?_⟩) (by assumption) ?_
            rotate_left 1
            · intro w hSw; (try dsimp only at hSw); go_simp <;> (try with_reducible rfl)
            try simp only [Act.put, List.getElem_toArray, List.getElem_cons_succ, List.getElem_cons_zero, List.setIfInBounds_toArray, List.set_cons_zero, List.set_cons_succ]
            refine wpAnyJ_ready (rs := [14]) (by kernel_rfl) (by simp) ?_
            refine AllReadyJ.cons (o := _) rfl (fun Kq hKq => ?_) ?_
            · go_simp
              refine hKq.out _ _ ?_ (fun hHeld => ?_)
              · intro hl; exact absurd hl (by decide)
              clear hKq Kq
              try simp only [Act.put, List.getElem_toArray, List.getElem_cons_succ, List.getElem_cons_zero, List.setIfInBounds_toArray, List.set_cons_zero, List.set_cons_succ]
              refine wpAnyJ_take0 (i := 15) (v := ?_) rfl (by kernel_rfl) (by kernel_rfl) (by kernel_rfl) (fun _ _ _ h => h) (by rfl) (Or.inl ⟨by rfl, ?_⟩) (by assumption) ?_
              rotate_left 1
              · intro w hSw; (try dsimp only at hSw); go_simp <;> (try with_reducible rfl)
              try simp only [Act.put, List.getElem_toArray, List.getElem_cons_succ, List.getElem_cons_zero, List.setIfInBounds_toArray, List.set_cons_zero, List.set_cons_succ]
              refine wpAnyJ_done (by kernel_rfl) ?_ _
              clear hHeld
              go_wp2_with fail
              go_meet
              have hz := box_set2 x19 (.int .i64 LO) (.int .i64 HI)
              exact ⟨_, rfl, rfl, hz, below_set2 (bgo hbd.out hbY.out) hg19 _ _⟩
            exact AllReadyJ.nil
          exact AllReadyJ.nil
        exact AllReadyJ.nil
      case rest =>
      obtain ⟨g19, rfl, rfl, x19, hb0⟩ := hcut
      obtain ⟨wc, rfl⟩ : ∃ W : World, W = wc := ⟨_, rfl⟩
      have hbr2 := Lib.hid (bgo hbr.out hb0)
      have hwb := Lib.hid hb0
      clear hbr hb0 x0 x1 x2 hv1
      obtain ⟨wr0, rfl⟩ : ∃ W : World, W = wr := ⟨_, rfl⟩
      have hbr := hbr2
      clear hbr2
      have i2 : ns ≠ [] := fun e => by rw [e] at hlt; simp at hlt
      have i3 : (IntKind.i64.wrap ((k : Int) + 1)).tmod (ns.length : Int) = (((k + 1) % N : Nat) : Int) := by
        have e0 : IntKind.i64.wrap ((k : Int) + 1) = ((k + 1 : Nat) : Int) := by have := hNn.out; rw [IntKind.wrap_i64]; omega
        rw [e0, ← hNn.out]; rfl
      generalize (k + 1) % N = kk at *
      have i4 : (0 : Int) ≤ (kk : Int) := by omega
      have i5 : (kk : Int) < (ns.length : Int) := by omega
      go_upto_region 11 with (fail)
      go_cut [21, 22] (fun v21 v22 W => TelB wc C v21 v22 W)
      case first =>
        obtain ⟨wr, rfl⟩ : ∃ W : World, W = wc := ⟨_, rfl⟩
        refine wp_region_J (fun W : World => W.cell? ⟨bn, on + kk, none⟩ = some (.slice B2 l2 d2) ∧ W.cell? ⟨ba, oa + k, none⟩ = some (.slice B3 l3 d3)) 18 (by kernel_rfl) ?_ (fun hHeld => ?_)
        · (try dsimp only); (first | exact ⟨(K.out _ (bgo hbr.out (bdrew wr))).2.2, (K.out _ (bgo hbr.out (bdrew wr))).2.1⟩ | exact ⟨(K.out _ (bgo hbr.out hbd.out)).2.2, (K.out _ (bgo hbr.out hbd.out)).2.1⟩ | exact ⟨(K.out _ (bgo hbr.out (bgo hbd.out hbX.out))).2.2, (K.out _ (bgo hbr.out (bgo hbd.out hbX.out))).2.1⟩ | exact ⟨(K.out _ (bgo hbr.out (bgo hbd.out hbY.out))).2.2, (K.out _ (bgo hbr.out (bgo hbd.out hbY.out))).2.1⟩)
        have hbd := Lib.hid (bdrew wr)
        generalize wr.drew = WD at *
        refine wpAnyJ_take0 (i := 0) (v := ?_) rfl (by kernel_rfl) (by kernel_rfl) (by kernel_rfl) (fun _ _ _ h => h) (by rfl) (Or.inl ⟨by rfl, ?_⟩) (by assumption) ?_
        rotate_left 1
        · intro w hSw; (try dsimp only at hSw); go_simp <;> (try with_reducible rfl)
        try simp only [Act.put, List.getElem_toArray, List.getElem_cons_succ, List.getElem_cons_zero, List.setIfInBounds_toArray, List.set_cons_zero, List.set_cons_succ]
        refine wpAnyJ_take0 (i := 1) (v := ?_) rfl (by kernel_rfl) (by kernel_rfl) (by kernel_rfl) (fun _ _ _ h => h) (by rfl) (Or.inl ⟨by rfl, ?_⟩) (by assumption) ?_
        rotate_left 1
        · intro w hSw; (try dsimp only at hSw); go_simp <;> (try with_reducible rfl)
        try simp only [Act.put, List.getElem_toArray, List.getElem_cons_succ, List.getElem_cons_zero, List.setIfInBounds_toArray, List.set_cons_zero, List.set_cons_succ]
        refine wpAnyJ_take0 (i := 2) (v := ?_) rfl (by kernel_rfl) (by kernel_rfl) (by kernel_rfl) (fun _ _ _ h => h) (by rfl) (Or.inl ⟨by rfl, ?_⟩) (by assumption) ?_
        rotate_left 1
        · intro w hSw; (try dsimp only at hSw); go_simp <;> (try with_reducible rfl)
        try simp only [Act.put, List.getElem_toArray, List.getElem_cons_succ, List.getElem_cons_zero, List.setIfInBounds_toArray, List.set_cons_zero, List.set_cons_succ]
        refine wpAnyJ_take0 (i := 3) (v := ?_) rfl (by kernel_rfl) (by kernel_rfl) (by kernel_rfl) (fun _ _ _ h => h) (by rfl) (Or.inl ⟨by rfl, ?_⟩) (by assumption) ?_
        rotate_left 1
        · intro w hSw; (try dsimp only at hSw); go_simp <;> (try with_reducible rfl)
        try simp only [Act.put, List.getElem_toArray, List.getElem_cons_succ, List.getElem_cons_zero, List.setIfInBounds_toArray, List.set_cons_zero, List.set_cons_succ]
        refine wpAnyJ_take0 (i := 4) (v := ?_) rfl (by kernel_rfl) (by kernel_rfl) (by kernel_rfl) (fun _ _ _ h => h) (by rfl) (Or.inl ⟨by rfl, ?_⟩) (by assumption) ?_
        rotate_left 1
        · intro w hSw; (try dsimp only at hSw); go_simp <;> (try with_reducible rfl)
        try simp only [Act.put, List.getElem_toArray, List.getElem_cons_succ, List.getElem_cons_zero, List.setIfInBounds_toArray, List.set_cons_zero, List.set_cons_succ]
        refine wpAnyJ_take0 (i := 5) (v := ?_) rfl (by kernel_rfl) (by kernel_rfl) (by kernel_rfl) (fun _ _ _ h => h) (by rfl) (Or.inl ⟨by rfl, ?_⟩) (by assumption) ?_
        rotate_left 1
        · intro w hSw; (try dsimp only at hSw); go_simp <;> (try with_reducible rfl)
        try simp only [Act.put, List.getElem_toArray, List.getElem_cons_succ, List.getElem_cons_zero, List.setIfInBounds_toArray, List.set_cons_zero, List.set_cons_succ]
        refine wpAnyJ_take0 (i := 6) (v := ?_) rfl (by kernel_rfl) (by kernel_rfl) (by kernel_rfl) (fun _ _ _ h => h) (by rfl) (Or.inl ⟨by rfl, ?_⟩) (by assumption) ?_
        rotate_left 1
        · intro w hSw; (try dsimp only at hSw); go_simp <;> (try with_reducible rfl)
        try simp only [Act.put, List.getElem_toArray, List.getElem_cons_succ, List.getElem_cons_zero, List.setIfInBounds_toArray, List.set_cons_zero, List.set_cons_succ]
        refine wpAnyJ_take0 (i := 7) (v := ?_) rfl (by kernel_rfl) (by kernel_rfl) (by kernel_rfl) (fun _ _ _ h => h) (by rfl) (Or.inl ⟨by rfl, ?_⟩) (by assumption) ?_
        rotate_left 1
        · intro w hSw; (try dsimp only at hSw); go_simp <;> (try with_reducible rfl)
        try simp only [Act.put, List.getElem_toArray, List.getElem_cons_succ, List.getElem_cons_zero, List.setIfInBounds_toArray, List.set_cons_zero, List.set_cons_succ]
        refine wpAnyJ_take (i := 8) (v := ?_) rfl (by kernel_rfl) (by kernel_rfl) (by kernel_rfl) (fun _ _ _ h => h) (by rfl) rfl (by kernel_rfl) (by kernel_rfl) (Or.inl ⟨by rfl, ?_⟩) (by assumption) ?_
        rotate_left 1
        · intro w hSw; (try dsimp only at hSw); go_simp <;> (try with_reducible rfl)
        try simp only [Act.put, List.getElem_toArray, List.getElem_cons_succ, List.getElem_cons_zero, List.setIfInBounds_toArray, List.set_cons_zero, List.set_cons_succ]
        refine wpAnyJ_take0 (i := 9) (v := ?_) rfl (by kernel_rfl) (by kernel_rfl) (by kernel_rfl) (fun _ _ _ h => h) (by rfl) (Or.inl ⟨by rfl, ?_⟩) (by assumption) ?_
        rotate_left 1
        · intro w hSw; (try dsimp only at hSw); go_simp <;> (try with_reducible rfl)
        try simp only [Act.put, List.getElem_toArray, List.getElem_cons_succ, List.getElem_cons_zero, List.setIfInBounds_toArray, List.set_cons_zero, List.set_cons_succ]
        refine wpAnyJ_take0 (i := 10) (v := ?_) rfl (by kernel_rfl) (by kernel_rfl) (by kernel_rfl) (fun _ _ _ h => h) (by rfl) (Or.inl ⟨by rfl, ?_⟩) (by assumption) ?_
        rotate_left 1
        · intro w hSw; (try dsimp only at hSw); go_simp <;> (try with_reducible rfl)
        try simp only [Act.put, List.getElem_toArray, List.getElem_cons_succ, List.getElem_cons_zero, List.setIfInBounds_toArray, List.set_cons_zero, List.set_cons_succ]
        refine wpAnyJ_take0 (i := 11) (v := ?_) rfl (by kernel_rfl) (by kernel_rfl) (by kernel_rfl) (fun _ _ _ h => h) (by rfl) (Or.inl ⟨by rfl, ?_⟩) (by assumption) ?_
        rotate_left 1
        · intro w hSw; (try dsimp only at hSw); go_simp <;> (try with_reducible rfl)
        try simp only [Act.put, List.getElem_toArray, List.getElem_cons_succ, List.getElem_cons_zero, List.setIfInBounds_toArray, List.set_cons_zero, List.set_cons_succ]
        refine wpAnyJ_take (i := 12) (v := ?_) rfl (by kernel_rfl) (by kernel_rfl) (by kernel_rfl) (fun _ _ _ h => h) (by rfl) rfl (by kernel_rfl) (by kernel_rfl) (Or.inl ⟨by rfl, ?_⟩) (by assumption) ?_
        rotate_left 1
        · intro w hSw; (try dsimp only at hSw); go_simp <;> (try with_reducible rfl)
        try simp only [Act.put, List.getElem_toArray, List.getElem_cons_succ, List.getElem_cons_zero, List.setIfInBounds_toArray, List.set_cons_zero, List.set_cons_succ]
        refine wpAnyJ_ready (rs := [13, 17]) (by kernel_rfl) (by simp) ?_
        refine AllReadyJ.cons (o := _) rfl (fun Kq hKq => ?_) ?_
        · go_simp
          go_at_call 18
          refine (hv2.out _ (bgo hbr.out hbd.out)).mono ?_
          rintro e X ⟨rfl, hbX⟩
          replace hbX := Lib.hid hbX
          go_wp2_with fail
          refine hKq.out _ _ ?_ (fun hHeld => ?_)
          · intro _; (try dsimp only); (first | exact ⟨(K.out _ (bgo hbr.out (bdrew wr))).2.2, (K.out _ (bgo hbr.out (bdrew wr))).2.1⟩ | exact ⟨(K.out _ (bgo hbr.out hbd.out)).2.2, (K.out _ (bgo hbr.out hbd.out)).2.1⟩ | exact ⟨(K.out _ (bgo hbr.out (bgo hbd.out hbX.out))).2.2, (K.out _ (bgo hbr.out (bgo hbd.out hbX.out))).2.1⟩ | exact ⟨(K.out _ (bgo hbr.out (bgo hbd.out hbY.out))).2.2, (K.out _ (bgo hbr.out (bgo hbd.out hbY.out))).2.1⟩)
          clear hKq Kq
          try simp only [Act.put, List.getElem_toArray, List.getElem_cons_succ, List.getElem_cons_zero, List.setIfInBounds_toArray, List.set_cons_zero, List.set_cons_succ]
          refine wpAnyJ_take0 (i := 14) (v := ?_) rfl (by kernel_rfl) (by kernel_rfl) (by kernel_rfl) (fun _ _ _ h => h) (by rfl) (Or.inl ⟨by rfl, ?_⟩) (by assumption) ?_
          rotate_left 1
          · intro w hSw; (try dsimp only at hSw); go_simp <;> (try with_reducible rfl)
          try simp only [Act.put, List.getElem_toArray, List.getElem_cons_succ, List.getElem_cons_zero, List.setIfInBounds_toArray, List.set_cons_zero, List.set_cons_succ]
          refine wpAnyJ_take0 (i := 15) (v := ?_) rfl (by kernel_rfl) (by kernel_rfl) (by kernel_rfl) (fun _ _ _ h => h) (by rfl) (Or.inl ⟨by rfl, ?_⟩) (by assumption) ?_
          rotate_left 1
          · intro w hSw; (try dsimp only at hSw); go_simp <;> (try with_reducible rfl)
          try simp only [Act.put, List.getElem_toArray, List.getElem_cons_succ, List.getElem_cons_zero, List.setIfInBounds_toArray, List.set_cons_zero, List.set_cons_succ]
          refine wpAnyJ_take0 (i := 16) (v := ?_) rfl (by kernel_rfl) (by kernel_rfl) (by kernel_rfl) (fun _ _ _ h => h) (by rfl) (Or.inl ⟨by rfl, ?_⟩) (by assumption) ?_
          rotate_left 1
          · intro w hSw; (try dsimp only at hSw); go_simp <;> (try with_reducible rfl)
          try simp only [Act.put, List.getElem_toArray, List.getElem_cons_succ, List.getElem_cons_zero, List.setIfInBounds_toArray, List.set_cons_zero, List.set_cons_succ]
          refine wpAnyJ_ready (rs := [17]) (by kernel_rfl) (by simp) ?_
          refine AllReadyJ.cons (o := _) rfl (fun Kq hKq => ?_) ?_
          · go_simp
            have hbY := Lib.hid (bgo hbX.out (balloc X (.cells #[.int .i64 0, .int .i64 0] 24)))
            have x19 := Box.new X 24 [.int .i64 0, .int .i64 0]
            change Box (X.alloc (.cells #[.int .i64 0, .int .i64 0] 24)) _ _ _ at x19
            have hg19 : wr.heap.size ≤ X.heap.size := (bgo hbd.out hbX.out).size
            generalize X.alloc (.cells #[.int .i64 0, .int .i64 0] 24) = X3 at *
            generalize X.heap.size = g19 at *
            obtain ⟨e0, e1, e2, e3⟩ := box2_cells x19
            refine hKq.out _ _ ?_ (fun hHeld => ?_)
            · intro _; (try dsimp only); (first | exact ⟨(K.out _ (bgo hbr.out (bdrew wr))).2.2, (K.out _ (bgo hbr.out (bdrew wr))).2.1⟩ | exact ⟨(K.out _ (bgo hbr.out hbd.out)).2.2, (K.out _ (bgo hbr.out hbd.out)).2.1⟩ | exact ⟨(K.out _ (bgo hbr.out (bgo hbd.out hbX.out))).2.2, (K.out _ (bgo hbr.out (bgo hbd.out hbX.out))).2.1⟩ | exact ⟨(K.out _ (bgo hbr.out (bgo hbd.out hbY.out))).2.2, (K.out _ (bgo hbr.out (bgo hbd.out hbY.out))).2.1⟩)
            clear hKq Kq
            try simp only [Act.put, List.getElem_toArray, List.getElem_cons_succ, List.getElem_cons_zero, List.setIfInBounds_toArray, List.set_cons_zero, List.set_cons_succ]
            refine wpAnyJ_ready (rs := [18]) (by kernel_rfl) (by simp) ?_
            refine AllReadyJ.cons (o := _) rfl (fun Kq hKq => ?_) ?_
            · go_simp
              refine hKq.out _ _ ?_ (fun hHeld => ?_)
              · intro hl; exact absurd hl (by decide)
              clear hKq Kq
              try simp only [Act.put, List.getElem_toArray, List.getElem_cons_succ, List.getElem_cons_zero, List.setIfInBounds_toArray, List.set_cons_zero, List.set_cons_succ]
              refine wpAnyJ_take0 (i := 19) (v := ?_) rfl (by kernel_rfl) (by kernel_rfl) (by kernel_rfl) (fun _ _ _ h => h) (by rfl) (Or.inl ⟨by rfl, ?_⟩) (by assumption) ?_
              rotate_left 1
              · intro w hSw; (try dsimp only at hSw); go_simp <;> (try with_reducible rfl)
              try simp only [Act.put, List.getElem_toArray, List.getElem_cons_succ, List.getElem_cons_zero, List.setIfInBounds_toArray, List.set_cons_zero, List.set_cons_succ]
              refine wpAnyJ_done (by kernel_rfl) ?_ _
              clear hHeld
              go_wp2_with fail
              go_meet
              have hz := box_set2 x19 (.int .i64 L2) (.int .i64 H2')
              exact ⟨_, rfl, rfl, below_set2 (bgo hbd.out hbY.out) hg19 _ _⟩
            exact AllReadyJ.nil
          exact AllReadyJ.nil
        refine AllReadyJ.cons (o := _) rfl (fun Kq hKq => ?_) ?_
        · go_simp
          have hbX := Lib.hid (balloc WD (.cells #[.int .i64 0, .int .i64 0] 24))
          have x19 := Box.new WD 24 [.int .i64 0, .int .i64 0]
          change Box (WD.alloc (.cells #[.int .i64 0, .int .i64 0] 24)) _ _ _ at x19
          have hg19 : wr.heap.size ≤ WD.heap.size := hbd.out.size
          generalize WD.alloc (.cells #[.int .i64 0, .int .i64 0] 24) = X at *
          generalize hgg19 : WD.heap.size = g19 at x19 hg19 ⊢
          clear hgg19
          refine hKq.out _ _ ?_ (fun hHeld => ?_)
          · intro _; (try dsimp only); (first | exact ⟨(K.out _ (bgo hbr.out (bdrew wr))).2.2, (K.out _ (bgo hbr.out (bdrew wr))).2.1⟩ | exact ⟨(K.out _ (bgo hbr.out hbd.out)).2.2, (K.out _ (bgo hbr.out hbd.out)).2.1⟩ | exact ⟨(K.out _ (bgo hbr.out (bgo hbd.out hbX.out))).2.2, (K.out _ (bgo hbr.out (bgo hbd.out hbX.out))).2.1⟩ | exact ⟨(K.out _ (bgo hbr.out (bgo hbd.out hbY.out))).2.2, (K.out _ (bgo hbr.out (bgo hbd.out hbY.out))).2.1⟩)
          clear hKq Kq
          try simp only [Act.put, List.getElem_toArray, List.getElem_cons_succ, List.getElem_cons_zero, List.setIfInBounds_toArray, List.set_cons_zero, List.set_cons_succ]
          refine wpAnyJ_ready (rs := [13]) (by kernel_rfl) (by simp) ?_
          refine AllReadyJ.cons (o := _) rfl (fun Kq hKq => ?_) ?_
          · go_simp
            go_at_call 18
            refine (hv2.out _ (bgo hbr.out (bgo hbd.out hbX.out))).mono ?_
            rintro e X2 ⟨rfl, hb9⟩
            have hbY := Lib.hid (bgo hbX.out hb9)
            replace x19 := x19.below hb9
            clear hb9
            obtain ⟨e0, e1, e2, e3⟩ := box2_cells x19
            go_wp2_with fail
            refine hKq.out _ _ ?_ (fun hHeld => ?_)
            · intro _; (try dsimp only); (first | exact ⟨(K.out _ (bgo hbr.out (bdrew wr))).2.2, (K.out _ (bgo hbr.out (bdrew wr))).2.1⟩ | exact ⟨(K.out _ (bgo hbr.out hbd.out)).2.2, (K.out _ (bgo hbr.out hbd.out)).2.1⟩ | exact ⟨(K.out _ (bgo hbr.out (bgo hbd.out hbX.out))).2.2, (K.out _ (bgo hbr.out (bgo hbd.out hbX.out))).2.1⟩ | exact ⟨(K.out _ (bgo hbr.out (bgo hbd.out hbY.out))).2.2, (K.out _ (bgo hbr.out (bgo hbd.out hbY.out))).2.1⟩)
            clear hKq Kq
            try simp only [Act.put, List.getElem_toArray, List.getElem_cons_succ, List.getElem_cons_zero, List.setIfInBounds_toArray, List.set_cons_zero, List.set_cons_succ]
            refine wpAnyJ_take0 (i := 14) (v := ?_) rfl (by kernel_rfl) (by kernel_rfl) (by kernel_rfl) (fun _ _ _ h => h) (by rfl) (Or.inl ⟨by rfl, ?_⟩) (by assumption) ?_
            rotate_left 1
            · intro w hSw; (try dsimp only at hSw); go_simp <;> (try with_reducible rfl)
            try simp only [Act.put, List.getElem_toArray, List.getElem_cons_succ, List.getElem_cons_zero, List.setIfInBounds_toArray, List.set_cons_zero, List.set_cons_succ]
            refine wpAnyJ_take0 (i := 15) (v := ?_) rfl (by kernel_rfl) (by kernel_rfl) (by kernel_rfl) (fun _ _ _ h => h) (by rfl) (Or.inl ⟨by rfl, ?_⟩) (by assumption) ?_
            rotate_left 1
            · intro w hSw; (try dsimp only at hSw); go_simp <;> (try with_reducible rfl)
            try simp only [Act.put, List.getElem_toArray, List.getElem_cons_succ, List.getElem_cons_zero, List.setIfInBounds_toArray, List.set_cons_zero, List.set_cons_succ]
            refine wpAnyJ_take0 (i := 16) (v := ?_) rfl (by kernel_rfl) (by kernel_rfl) (by kernel_rfl) (fun _ _ _ h => h) (by rfl) (Or.inl ⟨by rfl, ?_⟩) (by assumption) ?_
            rotate_left 1
            · intro w hSw; (try dsimp only at hSw); go_simp <;> (try with_reducible rfl)
            try simp only [Act.put, List.getElem_toArray, List.getElem_cons_succ, List.getElem_cons_zero, List.setIfInBounds_toArray, List.set_cons_zero, List.set_cons_succ]
            refine wpAnyJ_ready (rs := [18]) (by kernel_rfl) (by simp) ?_
            refine AllReadyJ.cons (o := _) rfl (fun Kq hKq => ?_) ?_
            · go_simp
              refine hKq.out _ _ ?_ (fun hHeld => ?_)
              · intro hl; exact absurd hl (by decide)
              clear hKq Kq
              try simp only [Act.put, List.getElem_toArray, List.getElem_cons_succ, List.getElem_cons_zero, List.setIfInBounds_toArray, List.set_cons_zero, List.set_cons_succ]
              refine wpAnyJ_take0 (i := 19) (v := ?_) rfl (by kernel_rfl) (by kernel_rfl) (by kernel_rfl) (fun _ _ _ h => h) (by rfl) (Or.inl ⟨by rfl, ?_⟩) (by assumption) ?_
              rotate_left 1
              · intro w hSw; (try dsimp only at hSw); go_simp <;> (try with_reducible rfl)
              try simp only [Act.put, List.getElem_toArray, List.getElem_cons_succ, List.getElem_cons_zero, List.setIfInBounds_toArray, List.set_cons_zero, List.set_cons_succ]
              refine wpAnyJ_done (by kernel_rfl) ?_ _
              clear hHeld
              go_wp2_with fail
              go_meet
              have hz := box_set2 x19 (.int .i64 L2) (.int .i64 H2')
              exact ⟨_, rfl, rfl, below_set2 (bgo hbd.out hbY.out) hg19 _ _⟩
            exact AllReadyJ.nil
          exact AllReadyJ.nil
        exact AllReadyJ.nil
      case rest =>
      obtain ⟨g21, rfl, rfl, hb1⟩ := hcut
      obtain ⟨WZ, rfl⟩ : ∃ W : World, W = wc := ⟨_, rfl⟩
      have hbZ := bgo hbr.out hb1
      have z19 := x19.below hb1
      have z11 := y11'.out.below hbZ
      obtain ⟨e0, e1⟩ := boxT2 z19
      obtain ⟨e2, e3⟩ := boxT2 z11
      replace hbZ := Lib.hid hbZ
      clear x19 hb1 hv2 i2 i3 i4 i5 z19 z11
      have i7 : (k : Int) < 5 := by have := hNn.out; omega
      by_cases hN2 : 2 ≤ N
      · obtain rfl := p4 hN2
        have i6 : (1 : Int) < (ns.length : Int) := by have := hNn.out; omega
        clear p4
        go_wp2_with fail
        go_roundw
        case rel => exact ⟨k + 1, by omega, by first | rfl | (congr 1), hbZ⟩
        case measure => simp [intOf]; omega
      · have i6 : ¬ (1 : Int) < (ns.length : Int) := by have := hNn.out; omega
        clear p4
        go_wp2_with fail
        go_roundw
        case rel => exact ⟨k + 1, by omega, by first | rfl | (congr 1), hbZ⟩
        case measure => simp [intOf]; omega
    · have i0 : ¬ (k : Int) < (ns.length : Int) := by omega
      go_wp2_with fail
      refine (hkn.out _).mono ?_
      rintro e w9 ⟨rfl, hb9⟩
      dsimp only
      go_wp2_with fail
      first | go_returns | go_ret
      exact ⟨rfl, bgo hbw.out (bgo hbr.out hb9)⟩
end Go.Proofs.YtjgepckncogdaaaGreat

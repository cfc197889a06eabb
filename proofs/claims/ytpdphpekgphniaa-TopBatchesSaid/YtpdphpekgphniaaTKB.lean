/- The walk of the statement TopBatches: true. No conditions. -/
import Derived.Test.YtpdphpekgphniaaTKS
import Derived.Test.YtpdphpekgphniaaTKG
import Derived.Test.YtpdphpekgphniaaTKY
import Derived.Test.YtpdphpekgphniaaHeldJ
import Derived.Deep.CutBlock
namespace Go.Proofs.Ytpdphpekgphniaa
open Go Go.RowKit
set_option linter.unusedVariables false
set_option linter.unusedSimpArgs false
attribute [local go_sem ↓] Go.wp_at_zero Go.wp_at_succ
theorem noByteS (a : Option Addr) (n c : Nat) (x y : Int) : NoByte [.slice a n c, .int .i64 x, .int .i64 y] := by
  intro z hz n e
  simp only [List.mem_cons, List.not_mem_nil, or_false] at hz
  rcases hz with rfl | rfl | rfl <;> cases e
/-- Bytes stay where a signer is written. -/
theorem SeesB.pokeS {w : World} {p : Nat} {u : Value} {l : Bs} {a a' : Option Addr} {n c n' c' : Nat} {x y x' y' : Int} (h : SeesB w w.heap.size u l) (hx : Box w p 44 [.slice a n c, .int .i64 x, .int .i64 y]) :
    SeesB (((w.setCell ⟨p, 0, none⟩ (.slice a' n' c')).setCell ⟨p, 1, none⟩ (.int .i64 x')).setCell ⟨p, 2, none⟩ (.int .i64 y')) (((w.setCell ⟨p, 0, none⟩ (.slice a' n' c')).setCell ⟨p, 1, none⟩ (.int .i64 x')).setCell ⟨p, 2, none⟩ (.int .i64 y')).heap.size u l := by
  have k1 := h.poke (j := 0) (v' := .slice a' n' c') hx (noByteS _ _ _ _ _)
  have hx1 := hx.set 0 (.slice a' n' c')
  simp only [List.set_cons_succ, List.set_cons_zero] at hx1
  have k2 := k1.poke (j := 1) (v' := .int .i64 x') hx1 (noByteS _ _ _ _ _)
  have hx2 := hx1.set 1 (.int .i64 x')
  simp only [List.set_cons_succ, List.set_cons_zero] at hx2
  exact (k2.poke (j := 2) (v' := .int .i64 y') hx2 (noByteS _ _ _ _ _)).more (by simp [World.setCell])
theorem bytesW_ln (seed : Int) (n : Nat) : (bytesW seed n).length = n := by
  unfold bytesW
  rw [List.length_take, rowsW_len]
  omega
set_option maxRecDepth 100000 in
set_option maxHeartbeats 4000000 in
theorem tb_law (seed : Int) (wf0 : (Lit.int .i64 seed).wf = true) (n : Int) (wf1 : (Lit.int .i64 n).wf = true) (more : Int) (wf2 : (Lit.int .i64 more).wf = true) (i : Int) (wf3 : (Lit.int .i64 i).wf = true) (k : Int) (wf4 : (Lit.int .i64 k).wf = true) (w : World) :
    Calls Try.prog 4 #[.int .i64 seed, .int .i64 n, .int .i64 more, .int .i64 i, .int .i64 k] w fun e w' => e = .returned (.bool true) ∧ Below w.heap.size w w' := by
  have q1 := fun W => within_any seed 1000 (by omega) (by omega) W
  have q2 := fun W => within_any n 9 (by omega) (by omega) W
  have q3 := fun W => within_any more 6 (by omega) (by omega) W
  have sd0 := Int.emod_nonneg seed (show (1000 : Int) ≠ 0 by omega)
  have sd1 := Int.emod_lt_of_pos seed (show (0 : Int) < 1000 by omega)
  have n0 := Int.emod_nonneg n (show (9 : Int) ≠ 0 by omega)
  have n1 := Int.emod_lt_of_pos n (show (0 : Int) < 9 by omega)
  have m0 := Int.emod_nonneg more (show (6 : Int) ≠ 0 by omega)
  have m1 := Int.emod_lt_of_pos more (show (0 : Int) < 6 by omega)
  generalize seed % 1000 = sd at *
  obtain ⟨nn, hnn⟩ := Int.eq_ofNat_of_zero_le n0
  obtain ⟨mm, hmm⟩ := Int.eq_ofNat_of_zero_le m0
  rw [hnn] at n1 q2
  rw [hmm] at m1 q3
  obtain ⟨N, hN⟩ : ∃ N : Nat, N = 1 + nn := ⟨_, rfl⟩
  have hw1 : IntKind.i64.wrap (1 + (nn : Int)) = (N : Int) := by rw [IntKind.wrap_i64]; omega
  obtain ⟨T, hT⟩ : ∃ T : Nat, T = N + mm := ⟨_, rfl⟩
  have hw2 : IntKind.i64.wrap ((N : Int) + (mm : Int)) = (T : Int) := by rw [IntKind.wrap_i64]; omega
  have q4 := fun W => within_any i (N : Int) (by omega) (by omega) W
  have q5 := fun W => within_any k (N : Int) (by omega) (by omega) W
  have i0 := Int.emod_nonneg i (show (N : Int) ≠ 0 by omega)
  have i1 := Int.emod_lt_of_pos i (show (0 : Int) < N by omega)
  have k0 := Int.emod_nonneg k (show (N : Int) ≠ 0 by omega)
  have k1 := Int.emod_lt_of_pos k (show (0 : Int) < N by omega)
  obtain ⟨ii, hii⟩ := Int.eq_ofNat_of_zero_le i0
  obtain ⟨kk, hkk⟩ := Int.eq_ofNat_of_zero_le k0
  rw [hii] at i1 q4
  rw [hkk] at k1 q5
  clear n0 m0 hnn hmm i0 k0 hii hkk wf0 wf1 wf2 wf3 wf4
  have hN9 : Hid (1 ≤ N ∧ N ≤ 9) := ⟨by omega, by omega⟩
  have hT14 : Hid (N ≤ T ∧ T ≤ 14) := ⟨by omega, by omega⟩
  have hI : Hid (ii < N) := by show _ < _; omega
  have hK : Hid (kk < N) := by show _ < _; omega
  have hS0 : Hid (0 ≤ sd ∧ sd < 1000) := ⟨sd0, sd1⟩
  clear hN n1 m1 i1 k1 sd0 sd1 hT
  replace q1 := Lib.hid q1
  replace q2 := Lib.hid q2
  replace q3 := Lib.hid q3
  replace q4 := Lib.hid q4
  replace q5 := Lib.hid q5
  go_enter Try.func4, Try.ntmps4
  go_wp2_with fail
  refine (q1.out _).mono ?_
  rintro e W0 ⟨rfl, rfl⟩
  dsimp only
  go_wp2_with fail
  refine (q2.out _).mono ?_
  rintro e W0 ⟨rfl, rfl⟩
  dsimp only
  go_wp2_with fail
  refine (q3.out _).mono ?_
  rintro e W0 ⟨rfl, rfl⟩
  dsimp only
  go_wp2_with fail
  refine (q4.out _).mono ?_
  rintro e W0 ⟨rfl, rfl⟩
  dsimp only
  go_wp2_with fail
  refine (q5.out _).mono ?_
  rintro e w ⟨rfl, rfl⟩
  clear q1 q2 q3 q4 q5
  dsimp only
  go_wp2_with fail
  go_loopw [11, 12] (fun l t wr => ∃ j : Nat, j ≤ T ∧ t = .int .i64 j ∧ OwnL wr w.heap.size l (lvT sd j) ∧ Below w.heap.size w wr) (fun _ t _ => 20 - (intOf t).toNat)
  case atStart => exact ⟨0, by omega, rfl, ⟨[], World.ownsRow_nil _ _ _ _, fun j hj => absurd hj (by simp [lvT])⟩, Below.refl _ _⟩
  case round =>
    obtain ⟨j, hj, rfl, ho, hb⟩ := hrel
    by_cases hlt : j < T
    · have hjI : (j : Int) < (T : Int) := by omega
      have hj14 : j < 14 := by have := hT14.out; omega
      have hby : ∀ W, Calls Try.prog 6 #[.int .i64 (sd + (j : Int) % 7), .int .i64 20] W (Shows (lfT sd j) W) := fun W => wbytes_any (sd + ((j % 7 : Nat) : Int)) 20 (by omega) W
      have hw3 : IntKind.i64.wrap (sd + (j : Int) % 7) = sd + (j : Int) % 7 := by have := hS0.out; rw [IntKind.wrap_i64]; omega
      have hst := Lib.hid (lvT_succ sd j)
      have hrow : Hid ((lvT sd j).length ≤ 64) := by show _ ≤ _; rw [lvT_len]; omega
      generalize lvT sd j = row at *
      generalize lfT sd j = l at *
      replace hby := Lib.hid hby
      replace ho := Lib.hid ho
      replace hb := Lib.hid hb
      obtain ⟨Ar, cr, rfl⟩ := ho.out.shape
      go_wp2_with fail
      refine (hby.out _).mono ?_
      rintro e w2 ⟨v2, rfl, h2, hb2, hf2⟩
      have ho2 := ho.out.below hb2
      have hel := Elt.of_from (v := .slice Ar row.length cr) h2 hf2 (fun k hk => (ho.out.lt k hk).2)
      obtain ⟨A2, c2, rfl, -, -⟩ := h2.mk_
      replace hb := Lib.hid (bgo hb.out hb2)
      have hal := balloc w2 (.cells #[.slice A2 l.length c2] 22)
      have hcell := Lib.hid (one_cell w2 (.slice A2 l.length c2) 22)
      replace ho2 := Lib.hid (ho2.below hal)
      replace hel := Lib.hid (hel.below hal)
      have hb3 := Lib.hid (bgo hb.out hal)
      clear hb2 hby ho h2 hf2 hal hb
      dsimp only
      go_wp2_with (at_builtin; refine wpList_appL (by rfl) _ _ 41 Try.underlying41 rfl w.heap.size _ row rfl ho2.out _ _ _ l rfl hcell.out hel.out (by have := hrow.out; omega) hb3.out.size ?_)
      intro v' w' hW2 hb4
      have hW2 := Lib.hid hW2
      have hb4 := Lib.hid hb4
      go_wp2_with fail
      go_roundw
      case rel => exact ⟨j + 1, by omega, by go_num, by rw [hst.out]; exact hW2.out, hb3.out.trans hb4.out⟩
      case measure => simp [intOf]; omega
    · obtain rfl : j = T := by omega
      clear hj hlt
      have i4 : ¬ ((j : Int) < (j : Int)) := by omega
      have hky := fun W => wkey_any sd W
      have hkl := bytesW_ln sd 32
      generalize bytesW sd 32 = SD at *
      have hpg : Hid (pubG SD 1 = keyG SD 1) := by show _ = _; simp [pubG, hkl]
      have hpc : Hid (pubC SD 1 = 0) := by show _ = _; simp [pubC, hkl]
      have hkyl : Hid ((keyG SD 1).length = 32) := keyG_len _ _
      have hln := lvT_len sd (j)
      obtain ⟨Al, cl, rfl⟩ := ho.shape
      rw [hln] at ho ⊢
      have hls := ho.sees
      obtain ⟨Ax, cx, ex, hcl1, hcl2⟩ := hls.mk_
      injection ex with ex1 ex2 ex3
      subst ex1 ex3
      clear ex2
      rw [hln] at hcl1
      have hcut := fun W => run_cut_to (P := Try.prog) 41 Try.underlying41 1 slice_size Al (j) cl .i64 (N : Int) (by omega) (by have := hT14.out; omega) W
      rw [Int.toNat_natCast] at hcut
      have hcut2 : ∀ W, (Instr.slice 41 (.slice Al (j) cl) none (some (.int .i64 (N : Int))) none).run Try.prog W = .ok (.slice (cutA Al cl 0 1) N cl) W := hcut
      have hlo : SeesL wr wr.heap.size (.slice (cutA Al cl 0 1) N cl) (lvT sd N) := by
        have h := SeesL.cut (a := 0) (b := N) hls (by omega) (by rw [hln]; exact hT14.out.1)
        rw [List.drop_zero, Nat.sub_zero, Nat.sub_zero, lvT_take sd N j hT14.out.1] at h
        exact h
      generalize cutA Al cl 0 1 = Ao at *
      clear hcut ho
      have hlnN := lvT_len sd N
      have hel1 := lvT_el sd (j)
      have hel0 := lvT_el sd N
      replace hcl1 := Lib.hid hcl1
      replace hcl2 := Lib.hid hcl2
      replace hky := Lib.hid hky
      replace hkl := Lib.hid hkl
      replace hls := Lib.hid hls
      replace hlo := Lib.hid hlo
      replace hb := Lib.hid hb
      replace hln := Lib.hid hln
      replace hlnN := Lib.hid hlnN
      replace hel1 := Lib.hid hel1
      replace hel0 := Lib.hid hel0
      go_wp2_with fail
      refine (hky.out _).mono ?_
      rintro e W1 ⟨v1, rfl, h1, hb1, -⟩
      obtain ⟨A1, c1, rfl, -, -⟩ := h1.mk_
      rw [hkl.out] at h1 ⊢
      have hbW := balloc W1 (.cells #[.slice A1 32 c1, .int .i64 1, .int .i64 0] 44)
      have hx := Box.new W1 44 [.slice A1 32 c1, .int .i64 1, .int .i64 0]
      have h1a := seesB_of h1 (Nat.le_refl _) hbW
      have hb2 := bgo hb1 hbW
      obtain ⟨x0, x1, x2, y0, y1, y2⟩ := box3_cells hx
      have hpb := public_any _ (.slice A1 32 c1) SD 1 (W1.alloc (.cells #[.slice A1 32 c1, .int .i64 1, .int .i64 0] 44)) h1a (Nat.le_refl _)
      unfold KeyPost at hpb
      rw [hpc.out, hpg.out] at hpb
      replace hpb := Lib.hid hpb
      replace hx := Lib.hid hx
      replace h1a := Lib.hid h1a
      replace hb2 := Lib.hid hb2
      have hgw : Hid (w.heap.size ≤ W1.heap.size) := Nat.le_trans hb.out.size hb1.size
      have hwr1 : Hid (wr.heap.size ≤ W1.heap.size) := hb1.size
      clear hky h1 hb1 hbW y0 y1 y2
      dsimp only
      go_wp2_with fail
      refine hpb.out.mono ?_
      rintro e W2 ⟨v2, rfl, h2, hb3⟩
      obtain ⟨A2, c2, rfl, -, -⟩ := h2.mk_
      rw [hkyl.out] at h2 ⊢
      replace hx := hx.out.below hb3
      replace h1a := seesB_of h1a.out (Nat.le_refl _) hb3
      replace hb2 := bgo hb2.out hb3
      have hwrp : Hid (wr.heap.size ≤ W1.heap.size) := hwr1.out
      generalize W1.heap.size = p at *
      have hrt := root_top (lvT sd N) W2.heap.size (.slice Ao N cl) W2 ((SeesL.below hlo.out hb2).more hb2.size) (Nat.le_refl _) (by have := hlnN.out; have := hN9.out; omega) (fun l hl => by rw [hel0.out l hl]; omega)
      unfold RootPost at hrt
      replace hrt := Lib.hid hrt
      replace hx := Lib.hid hx
      replace h1a := Lib.hid h1a
      replace hb2 := Lib.hid hb2
      replace h2 := Lib.hid h2
      clear hpb hb3 x0 x1 x2
      dsimp only
      go_wp2_with (simp only [hcut2])
      refine hrt.out.mono ?_
      rintro e W3 ⟨v3, rfl, h3, hb3⟩
      have hR0l : (rootG ((lvT sd N).map leafH)).length = 32 := rootG_len _ (leafs_len _)
      have hR1l : (rootG ((lvT sd j).map leafH)).length = 32 := rootG_len _ (leafs_len _)
      have hv0 : Hid (verifyG (keyG SD 1) (rootG ((lvT sd N).map leafH)) (sigG SD 1 0 (rootG ((lvT sd N).map leafH))) = true) := verify_sig SD 1 0 _ (by omega) (by omega) (by omega)
      have hv1 : Hid (verifyG (keyG SD 1) (rootG ((lvT sd j).map leafH)) (sigG SD 1 1 (rootG ((lvT sd j).map leafH))) = true) := verify_sig SD 1 1 _ (by omega) (by omega) (by omega)
      have hc0 : Hid (checkG (rootG ((lvT sd N).map leafH)) N ii (lfT sd ii) (pathG ((lvT sd N).map leafH) ii) = true) := top_self sd N ii hI.out
      have hc1 : Hid (checkG (rootG ((lvT sd N).map leafH)) N ii (lfT sd kk) (pathG ((lvT sd N).map leafH) ii) = (lfT sd ii == lfT sd kk)) := top_plain sd N ii kk hS0.out.1 hS0.out.2 hN9.out.2 hI.out hK.out
      have hPel : Hid (∀ x ∈ pathG ((lvT sd N).map leafH) ii, x.length = 32) := pathG_el _ _ _ (Nat.le_refl _) (leafs_len _)
      have hgr : Hid (∀ (uo un up : Value) (W : World), SeesB W W.heap.size uo (rootG ((lvT sd N).map leafH)) → SeesB W W.heap.size un (rootG ((lvT sd j).map leafH)) → SeesL W W.heap.size up (proofG ((lvT sd j).map leafH) N true) →
          Calls Try.prog 24 #[uo, .int .i64 (N : Int), un, .int .i64 (j : Int), up] W (BoolPost true W)) := fun uo un up W ho hn hp => by
        have e1 : ((lvT sd j).map leafH).take N = (lvT sd N).map leafH := by rw [← List.map_take, lvT_take sd N j hT14.out.1]
        have e2 : ((lvT sd j).map leafH).length = j := by rw [List.length_map, hln.out]
        have h := growth_any ((lvT sd j).map leafH) N uo un up W (by rw [e1]; exact ho) hn hp hN9.out.1 (by rw [e2]; exact hT14.out.1) (by rw [e2]; have := hT14.out; omega) (leafs_len _)
        rw [e2] at h
        exact h
      have hpt : Hid (∀ (u : Value) (W : World), SeesL W W.heap.size u (lvT sd N) → Calls Try.prog 20 #[u, .int .i64 (ii : Int)] W (PathPost ((lvT sd N).map leafH) ii W)) := fun u W hu => path_top (lvT sd N) ii _ u W hu (by rw [hlnN.out]; exact hI.out) (Nat.le_refl _) (by rw [hlnN.out]; have := hN9.out; omega) (fun l hl => by rw [hel0.out l hl]; omega)
      have hcs : Hid (∀ (u : Value) (W : World), SeesL W W.heap.size u (lvT sd j) → Calls Try.prog 21 #[u, .int .i64 (N : Int)] W (ProofPost ((lvT sd j).map leafH) N W)) := fun u W hu => consistency_top (lvT sd j) N _ u W hu hN9.out.1 (by rw [hln.out]; exact hT14.out.1) (Nat.le_refl _) (by rw [hln.out]; have := hT14.out; omega) (fun l hl => by rw [hel1.out l hl]; omega)
      unfold PathPost at hpt
      unfold ProofPost at hcs
      have hrt2 := fun (u : Value) (W : World) (hu : SeesL W W.heap.size u (lvT sd j)) => root_top (lvT sd j) W.heap.size u W hu (Nat.le_refl _) (by rw [hln.out]; have := hT14.out; omega) (fun l hl => by rw [hel1.out l hl]; omega)
      unfold RootPost at hrt2
      generalize rootG ((lvT sd N).map leafH) = R0 at *
      generalize rootG ((lvT sd j).map leafH) = R1 at *
      generalize pathG ((lvT sd N).map leafH) ii = P at *
      generalize proofG ((lvT sd j).map leafH) N true = Q at *
      replace hrt2 := Lib.hid hrt2
      replace hR0l := Lib.hid hR0l
      replace hR1l := Lib.hid hR1l
      obtain ⟨A3, c3, rfl, -, -⟩ := h3.sees.mk_
      replace h3 := Lib.hid h3.sees
      rw [hR0l.out] at h3 ⊢
      replace h1a := Lib.hid (seesB_of h1a.out (Nat.le_refl _) hb3)
      replace h2 := Lib.hid (seesB_of h2.out (Nat.le_refl _) hb3)
      replace hx := Lib.hid (hx.out.below hb3)
      replace hb2 := Lib.hid (bgo hb2.out hb3)
      clear hrt hb3
      dsimp only
      go_wp2_with fail
      refine (hrt2.out _ W3 ((SeesL.below hls.out hb2.out).more hb2.out.size)).mono ?_
      rintro e W4 ⟨v4, rfl, h4, hb4⟩
      obtain ⟨A4, c4, rfl, -, -⟩ := h4.sees.mk_
      replace h4 := Lib.hid h4.sees
      rw [hR1l.out] at h4 ⊢
      replace h1a := Lib.hid (seesB_of h1a.out (Nat.le_refl _) hb4)
      replace h2 := Lib.hid (seesB_of h2.out (Nat.le_refl _) hb4)
      replace h3 := Lib.hid (seesB_of h3.out (Nat.le_refl _) hb4)
      replace hx := Lib.hid (hx.out.below hb4)
      replace hb2 := Lib.hid (bgo hb2.out hb4)
      obtain ⟨x0, x1, x2, -⟩ := box3_cells hx.out
      have hsg : Calls Try.prog 19 #[.agg #[.slice A1 32 c1, .int .i64 1, .int .i64 0], .slice A3 32 c3] W4 (fun e w' => ∃ v v2, e = .returned (.tuple #[.agg #[v, .int .i64 1, .int .i64 1], v2, .int .i64 0]) ∧ SeesB w' w'.heap.size v SD ∧ SeesB w' w'.heap.size v2 (sigG SD 1 0 R0) ∧ Below W4.heap.size W4 w') :=
        sign_ok W4.heap.size _ _ SD R0 1 0 W4 h1a.out h3.out (Nat.le_refl _) hkl.out (by omega) (by omega) (by have := hR0l.out; omega)
      replace hsg := Lib.hid hsg
      clear hrt2 hb4 h1a
      dsimp only
      go_wp2_with fail
      refine hsg.out.mono ?_
      rintro e W5 ⟨v5, v6, rfl, h5, h6, hb5⟩
      obtain ⟨A5, c5, rfl, -, -⟩ := h5.mk_
      obtain ⟨A6, c6, rfl, -, -⟩ := h6.mk_
      have hs0l : Hid ((sigG SD 1 0 R0).length = 597) := by show _ = _; rw [sigG_len]
      generalize sigG SD 1 0 R0 = G0 at *
      rw [hkl.out] at h5 ⊢
      rw [hs0l.out] at h6 ⊢
      replace h5 := Lib.hid h5
      replace h6 := Lib.hid h6
      replace h2 := Lib.hid (seesB_of h2.out (Nat.le_refl _) hb5)
      replace h3 := Lib.hid (seesB_of h3.out (Nat.le_refl _) hb5)
      replace h4 := Lib.hid (seesB_of h4.out (Nat.le_refl _) hb5)
      replace hx := Lib.hid (hx.out.below hb5)
      replace hb2 := Lib.hid (bgo hb2.out hb5)
      clear x0 x1 x2 hsg hb5
      obtain ⟨x0, x1, x2, y0, y1, y2⟩ := box3_cells hx.out
      dsimp only
      go_wp2_with fail
      replace h2 := Lib.hid (h2.out.pokeS (a' := A5) (n' := 32) (c' := c5) (x' := 1) (y' := 1) hx.out)
      replace h3 := Lib.hid (h3.out.pokeS (a' := A5) (n' := 32) (c' := c5) (x' := 1) (y' := 1) hx.out)
      replace h4 := Lib.hid (h4.out.pokeS (a' := A5) (n' := 32) (c' := c5) (x' := 1) (y' := 1) hx.out)
      replace h5 := Lib.hid (h5.out.pokeS (a' := A5) (n' := 32) (c' := c5) (x' := 1) (y' := 1) hx.out)
      replace h6 := Lib.hid (h6.out.pokeS (a' := A5) (n' := 32) (c' := c5) (x' := 1) (y' := 1) hx.out)
      have hwp : wr.heap.size ≤ p := hwrp.out
      replace hb2 := Lib.hid (((hb2.out.setCell (p := ⟨p, 0, none⟩) hwp (.slice A5 32 c5)).setCell (p := ⟨p, 1, none⟩) hwp (.int .i64 1)).setCell (p := ⟨p, 2, none⟩) hwp (.int .i64 1))
      clear x0 x1 x2 y0 y1 y2 hx hwp
      generalize ((W5.setCell ⟨p, 0, none⟩ (.slice A5 32 c5)).setCell ⟨p, 1, none⟩ (.int .i64 1)).setCell ⟨p, 2, none⟩ (.int .i64 1) = W6 at *
      have hsg : Calls Try.prog 19 #[.agg #[.slice A5 32 c5, .int .i64 1, .int .i64 1], .slice A4 32 c4] W6 (fun e w' => ∃ v v2, e = .returned (.tuple #[.agg #[v, .int .i64 1, .int .i64 2], v2, .int .i64 0]) ∧ SeesB w' w'.heap.size v SD ∧ SeesB w' w'.heap.size v2 (sigG SD 1 1 R1) ∧ Below W6.heap.size W6 w') :=
        sign_ok W6.heap.size _ _ SD R1 1 1 W6 h5.out h4.out (Nat.le_refl _) hkl.out (by omega) (by omega) (by have := hR1l.out; omega)
      refine hsg.mono ?_
      rintro e W7 ⟨v7, v8, rfl, h7, h8, hb7⟩
      obtain ⟨A7, c7, rfl, -, -⟩ := h7.mk_
      obtain ⟨A8, c8, rfl, -, -⟩ := h8.mk_
      have hs1l : Hid ((sigG SD 1 1 R1).length = 597) := by show _ = _; rw [sigG_len]
      generalize sigG SD 1 1 R1 = G1 at *
      rw [hkl.out] at h7 ⊢
      rw [hs1l.out] at h8 ⊢
      have hal := balloc W7 (.cells #[.slice A7 32 c7, .int .i64 1, .int .i64 2] 44)
      replace hal := bgo hb7 hal
      replace h8 := Lib.hid (seesB_of h8 (Nat.le_refl _) (balloc W7 (.cells #[.slice A7 32 c7, .int .i64 1, .int .i64 2] 44)))
      replace h2 := Lib.hid (seesB_of h2.out (Nat.le_refl _) hal)
      replace h3 := Lib.hid (seesB_of h3.out (Nat.le_refl _) hal)
      replace h4 := Lib.hid (seesB_of h4.out (Nat.le_refl _) hal)
      replace h6 := Lib.hid (seesB_of h6.out (Nat.le_refl _) hal)
      replace hb2 := Lib.hid (bgo hb2.out hal)
      clear hsg h5 h7 hb7 hal
      dsimp only
      go_wp2_with (simp only [hcut2])
      generalize W7.alloc (.cells #[.slice A7 32 c7, .int .i64 1, .int .i64 2] 44) = W8 at *
      have hwl := (SeesL.below hlo.out hb2.out).more hb2.out.size
      refine (hpt.out _ W8 hwl).mono ?_
      rintro e W9 ⟨v9, rfl, h9, hb9⟩
      obtain ⟨A9, c9, rfl⟩ := h9.shape
      replace h2 := Lib.hid (seesB_of h2.out (Nat.le_refl _) hb9)
      replace h3 := Lib.hid (seesB_of h3.out (Nat.le_refl _) hb9)
      replace h4 := Lib.hid (seesB_of h4.out (Nat.le_refl _) hb9)
      replace h6 := Lib.hid (seesB_of h6.out (Nat.le_refl _) hb9)
      replace h8 := Lib.hid (seesB_of h8.out (Nat.le_refl _) hb9)
      replace hb2 := Lib.hid (bgo hb2.out hb9)
      replace h9 := Lib.hid h9
      clear hpt hwl hb9
      dsimp only
      go_wp2_with fail
      refine (hcs.out _ W9 ((SeesL.below hls.out hb2.out).more hb2.out.size)).mono ?_
      rintro e W10 ⟨v10, rfl, h10, hb10⟩
      obtain ⟨A10, c10, rfl⟩ := h10.shape
      replace h2 := Lib.hid (seesB_of h2.out (Nat.le_refl _) hb10)
      replace h3 := Lib.hid (seesB_of h3.out (Nat.le_refl _) hb10)
      replace h4 := Lib.hid (seesB_of h4.out (Nat.le_refl _) hb10)
      replace h6 := Lib.hid (seesB_of h6.out (Nat.le_refl _) hb10)
      replace h8 := Lib.hid (seesB_of h8.out (Nat.le_refl _) hb10)
      replace hb2 := Lib.hid (bgo hb2.out hb10)
      replace h9 := Lib.hid (h9.out.below hb10)
      replace h10 := Lib.hid h10
      clear hcs hb10
      dsimp only
      go_wp2_with fail
      have hij : ii < (lvT sd j).length := by rw [hln.out]; have := hI.out; have := hT14.out; omega
      have hkj : kk < (lvT sd j).length := by rw [hln.out]; have := hK.out; have := hT14.out; omega
      obtain ⟨bL, oL, rfl, hbL, hcL⟩ := hls.out.at_ (by omega)
      obtain ⟨Ai, ci, hci, -, -, hsi⟩ := hcL ii hij
      obtain ⟨Ak, ck, hck, -, -, hsk⟩ := hcL kk hkj
      rw [lvT_get sd j ii (by rw [← hln.out]; exact hij)] at hci hsi
      rw [lvT_get sd j kk (by rw [← hln.out]; exact hkj)] at hck hsk
      have hli := lfT_len sd ii
      have hlk := lfT_len sd kk
      generalize hbb : (lfT sd ii == lfT sd kk) = bb at *
      generalize lfT sd ii = LI at *
      generalize lfT sd kk = LK at *
      rw [hli] at hci hsi
      rw [hlk] at hck hsk
      have K : Hid (∀ W : World, Below wr.heap.size wr W → W.cell? ⟨bL, oL + ii, none⟩ = some (.slice Ai 20 ci) ∧ W.cell? ⟨bL, oL + kk, none⟩ = some (.slice Ak 20 ck)) :=
        fun W hW => ⟨(hW.cell (p := ⟨bL, oL + ii, none⟩) hbL).trans hci, (hW.cell (p := ⟨bL, oL + kk, none⟩) hbL).trans hck⟩
      replace hsi := Lib.hid hsi
      replace hsk := Lib.hid hsk
      replace hli := Lib.hid hli
      replace hlk := Lib.hid hlk
      replace hbb := Lib.hid hbb
      have hckA : Hid (∀ (ur u up : Value) (a : Bs) (W : World), a.length = 20 → SeesB W W.heap.size ur R0 → SeesB W W.heap.size u a → SeesL W W.heap.size up P → Calls Try.prog 23 #[ur, .int .i64 (N : Int), .int .i64 (ii : Int), u, up] W (BoolPost (checkG R0 N ii a P) W)) := fun ur u up a W ha h1 h2 h3 => by
        have h := check_any R0 (N : Int) (ii : Int) a P W.heap.size ur u up W h1 h2 h3 (Nat.le_refl _) (by omega) (fun l hl => by rw [hPel.out l hl]; omega)
        rw [checkI_in _ _ _ _ _ hN9.out.1 (by have := hN9.out; omega) hI.out] at h
        exact h
      have j0 : (0 : Int) ≤ (ii : Int) := by omega
      have j1 : (ii : Int) < (j : Int) := by have := hI.out; have := hT14.out; omega
      have j2 : (0 : Int) ≤ (kk : Int) := by omega
      have j3 : (kk : Int) < (j : Int) := by have := hK.out; have := hT14.out; omega
      clear hci hck hij hkj hcL hls hlo
      have hve := verify_any W10.heap.size _ _ _ (keyG SD 1) R0 G0 W10 h2.out h3.out h6.out (Nat.le_refl _) (by have := hR0l.out; omega) (by have := hs0l.out; omega)
      rw [hv0.out] at hve
      refine hve.mono ?_
      rintro e W11 ⟨rfl, hb11⟩
      replace h2 := Lib.hid (seesB_of h2.out (Nat.le_refl _) hb11)
      replace h3 := Lib.hid (seesB_of h3.out (Nat.le_refl _) hb11)
      replace h4 := Lib.hid (seesB_of h4.out (Nat.le_refl _) hb11)
      replace h8 := Lib.hid (seesB_of h8.out (Nat.le_refl _) hb11)
      replace hb2 := Lib.hid (bgo hb2.out hb11)
      replace h9 := Lib.hid (h9.out.below hb11)
      replace h10 := Lib.hid (h10.out.below hb11)
      clear hve hb11
      have hve := Lib.hid (verify_any W11.heap.size _ _ _ (keyG SD 1) R1 G1 W11 h2.out h4.out h8.out (Nat.le_refl _) (by have := hR1l.out; omega) (by have := hs1l.out; omega))
      rw [hv1.out] at hve
      dsimp only
      go_wp2_with fail
      refine hve.out.mono ?_
      rintro e W12 ⟨rfl, hb12⟩
      replace h3 := Lib.hid (seesB_of h3.out (Nat.le_refl _) hb12)
      replace h4 := Lib.hid (seesB_of h4.out (Nat.le_refl _) hb12)
      replace hb2 := Lib.hid (bgo hb2.out hb12)
      replace h9 := Lib.hid (h9.out.below hb12)
      replace h10 := Lib.hid (h10.out.below hb12)
      obtain ⟨z0, z1⟩ := K.out W12 hb2.out
      have hchk := Lib.hid (hckA.out (.slice A3 32 c3) (.slice Ai 20 ci) (.slice A9 P.length c9) LI W12 hli.out h3.out (seesB_of hsi.out (Nat.le_refl _) hb2.out) h9.out.sees)
      rw [hc0.out] at hchk
      clear hve hb12 h2 h8
      dsimp only
      go_wp2_with fail
      refine hchk.out.mono ?_
      rintro e W13 ⟨rfl, hb13⟩
      replace h3 := Lib.hid (seesB_of h3.out (Nat.le_refl _) hb13)
      replace h4 := Lib.hid (seesB_of h4.out (Nat.le_refl _) hb13)
      replace hb2 := Lib.hid (bgo hb2.out hb13)
      replace h9 := Lib.hid (h9.out.below hb13)
      replace h10 := Lib.hid (h10.out.below hb13)
      have hgo := Lib.hid (hgr.out (.slice A3 32 c3) (.slice A4 32 c4) (.slice A10 Q.length c10) W13 h3.out h4.out h10.out.sees)
      clear hchk hb13 z0 z1
      dsimp only
      go_wp2_with fail
      refine hgo.out.mono ?_
      rintro e W14 ⟨rfl, hb14⟩
      replace h3 := Lib.hid (seesB_of h3.out (Nat.le_refl _) hb14)
      replace hb2 := Lib.hid (bgo hb2.out hb14)
      replace h9 := Lib.hid (h9.out.below hb14)
      obtain ⟨z0, z1⟩ := K.out W14 hb2.out
      clear hgo hb14 h4 h10
      dsimp only
      go_upto_region 21 with (fail)
      refine wp_region_J (fun W : World => W.cell? ⟨bL, oL + ii, none⟩ = some (.slice Ai 20 ci) ∧ W.cell? ⟨bL, oL + kk, none⟩ = some (.slice Ak 20 ck)) 22 (by kernel_rfl) ?_ (fun hHeld => ?_)
      · (try dsimp only); (first | exact K.out _ (bgo hb2.out hbC.out) | exact K.out _ (bgo hb2.out (bdrew W14)) | exact K.out _ hb2.out)
      have hbC := Lib.hid (bdrew W14)
      generalize W14.drew = WX at *
      refine wpAnyJ_ready (rs := [0]) (by kernel_rfl) (by simp) ?_
      refine AllReadyJ.cons (o := _) rfl (fun Kq hKq => ?_) ?_
      · go_simp
        go_at_call 5
        refine (roused_any _).mono ?_
        rintro e WX ⟨rfl, hal⟩
        replace hbC := Lib.hid (bgo hbC.out hal)
        clear hal
        go_wp2_with fail
        refine hKq.out _ _ ?_ (fun hHeld => ?_)
        · intro _; (try dsimp only); (first | exact K.out _ (bgo hb2.out hbC.out) | exact K.out _ (bgo hb2.out (bdrew W14)) | exact K.out _ hb2.out)
        clear hKq Kq
        try simp only [Act.put, List.getElem_toArray, List.getElem_cons_succ, List.getElem_cons_zero, List.setIfInBounds_toArray, List.set_cons_zero, List.set_cons_succ]
        refine wpAnyJ_take0 (i := 1) (v := ?_) rfl (by kernel_rfl) (by kernel_rfl) (by kernel_rfl) (fun _ _ _ h => h) (by rfl) (Or.inl ⟨by rfl, ?_⟩) (by assumption) ?_
        rotate_left 1
        · intro w hSw; (try dsimp only at hSw); go_simp <;> (try with_reducible rfl)
        try simp only [Act.put, List.getElem_toArray, List.getElem_cons_succ, List.getElem_cons_zero, List.setIfInBounds_toArray, List.set_cons_zero, List.set_cons_succ]
        refine wpAnyJ_take0 (i := 2) (v := ?_) rfl (by kernel_rfl) (by kernel_rfl) (by kernel_rfl) (fun _ _ _ h => h) (by rfl) (Or.inl ⟨by rfl, ?_⟩) (by assumption) ?_
        rotate_left 1
        · intro w hSw; (try dsimp only at hSw); go_simp <;> (try with_reducible rfl)
        try simp only [Act.put, List.getElem_toArray, List.getElem_cons_succ, List.getElem_cons_zero, List.setIfInBounds_toArray, List.set_cons_zero, List.set_cons_succ]
        refine wpAnyJ_take0 (i := 3) (v := ?_) rfl (by kernel_rfl) (by kernel_rfl) (by kernel_rfl) (fun _ _ _ h => h) (by rfl) (Or.inl ⟨by rfl, ?_⟩) (by assumption) ?_
        rotate_left 1
        · intro w hSw; (try dsimp only at hSw); go_simp <;> (try with_reducible rfl)
        try simp only [Act.put, List.getElem_toArray, List.getElem_cons_succ, List.getElem_cons_zero, List.setIfInBounds_toArray, List.set_cons_zero, List.set_cons_succ]
        refine wpAnyJ_take0 (i := 4) (v := ?_) rfl (by kernel_rfl) (by kernel_rfl) (by kernel_rfl) (fun _ _ _ h => h) (by rfl) (Or.inl ⟨by rfl, ?_⟩) (by assumption) ?_
        rotate_left 1
        · intro w hSw; (try dsimp only at hSw); go_simp <;> (try with_reducible rfl)
        try simp only [Act.put, List.getElem_toArray, List.getElem_cons_succ, List.getElem_cons_zero, List.setIfInBounds_toArray, List.set_cons_zero, List.set_cons_succ]
        refine wpAnyJ_take0 (i := 5) (v := ?_) rfl (by kernel_rfl) (by kernel_rfl) (by kernel_rfl) (fun _ _ _ h => h) (by rfl) (Or.inl ⟨by rfl, ?_⟩) (by assumption) ?_
        rotate_left 1
        · intro w hSw; (try dsimp only at hSw); go_simp <;> (try with_reducible rfl)
        try simp only [Act.put, List.getElem_toArray, List.getElem_cons_succ, List.getElem_cons_zero, List.setIfInBounds_toArray, List.set_cons_zero, List.set_cons_succ]
        refine wpAnyJ_take0 (i := 6) (v := ?_) rfl (by kernel_rfl) (by kernel_rfl) (by kernel_rfl) (fun _ _ _ h => h) (by rfl) (Or.inl ⟨by rfl, ?_⟩) (by assumption) ?_
        rotate_left 1
        · intro w hSw; (try dsimp only at hSw); go_simp <;> (try with_reducible rfl)
        try simp only [Act.put, List.getElem_toArray, List.getElem_cons_succ, List.getElem_cons_zero, List.setIfInBounds_toArray, List.set_cons_zero, List.set_cons_succ]
        refine wpAnyJ_take0 (i := 7) (v := ?_) rfl (by kernel_rfl) (by kernel_rfl) (by kernel_rfl) (fun _ _ _ h => h) (by rfl) (Or.inl ⟨by rfl, ?_⟩) (by assumption) ?_
        rotate_left 1
        · intro w hSw; (try dsimp only at hSw); go_simp <;> (try with_reducible rfl)
        try simp only [Act.put, List.getElem_toArray, List.getElem_cons_succ, List.getElem_cons_zero, List.setIfInBounds_toArray, List.set_cons_zero, List.set_cons_succ]
        refine wpAnyJ_take (i := 8) (v := ?_) rfl (by kernel_rfl) (by kernel_rfl) (by kernel_rfl) (fun _ _ _ h => h) (by rfl) rfl (by kernel_rfl) (by kernel_rfl) (Or.inl ⟨by rfl, ?_⟩) (by assumption) ?_
        rotate_left 1
        · intro w hSw; (try dsimp only at hSw); go_simp <;> (try with_reducible rfl)
        try simp only [Act.put, List.getElem_toArray, List.getElem_cons_succ, List.getElem_cons_zero, List.setIfInBounds_toArray, List.set_cons_zero, List.set_cons_succ]
        refine wpAnyJ_take0 (i := 9) (v := ?_) rfl (by kernel_rfl) (by kernel_rfl) (by kernel_rfl) (fun _ _ _ h => h) (by rfl) (Or.inl ⟨by rfl, ?_⟩) (by assumption) ?_
        rotate_left 1
        · intro w hSw; (try dsimp only at hSw); go_simp <;> (try with_reducible rfl)
        try simp only [Act.put, List.getElem_toArray, List.getElem_cons_succ, List.getElem_cons_zero, List.setIfInBounds_toArray, List.set_cons_zero, List.set_cons_succ]
        refine wpAnyJ_take0 (i := 11) (v := ?_) rfl (by kernel_rfl) (by kernel_rfl) (by kernel_rfl) (fun _ _ _ h => h) (by rfl) (Or.inl ⟨by rfl, ?_⟩) (by assumption) ?_
        rotate_left 1
        · intro w hSw; (try dsimp only at hSw); go_simp <;> (try with_reducible rfl)
        try simp only [Act.put, List.getElem_toArray, List.getElem_cons_succ, List.getElem_cons_zero, List.setIfInBounds_toArray, List.set_cons_zero, List.set_cons_succ]
        refine wpAnyJ_take0 (i := 12) (v := ?_) rfl (by kernel_rfl) (by kernel_rfl) (by kernel_rfl) (fun _ _ _ h => h) (by rfl) (Or.inl ⟨by rfl, ?_⟩) (by assumption) ?_
        rotate_left 1
        · intro w hSw; (try dsimp only at hSw); go_simp <;> (try with_reducible rfl)
        try simp only [Act.put, List.getElem_toArray, List.getElem_cons_succ, List.getElem_cons_zero, List.setIfInBounds_toArray, List.set_cons_zero, List.set_cons_succ]
        refine wpAnyJ_take0 (i := 13) (v := ?_) rfl (by kernel_rfl) (by kernel_rfl) (by kernel_rfl) (fun _ _ _ h => h) (by rfl) (Or.inl ⟨by rfl, ?_⟩) (by assumption) ?_
        rotate_left 1
        · intro w hSw; (try dsimp only at hSw); go_simp <;> (try with_reducible rfl)
        try simp only [Act.put, List.getElem_toArray, List.getElem_cons_succ, List.getElem_cons_zero, List.setIfInBounds_toArray, List.set_cons_zero, List.set_cons_succ]
        refine wpAnyJ_take (i := 14) (v := ?_) rfl (by kernel_rfl) (by kernel_rfl) (by kernel_rfl) (fun _ _ _ h => h) (by rfl) rfl (by kernel_rfl) (by kernel_rfl) (Or.inl ⟨by rfl, ?_⟩) (by assumption) ?_
        rotate_left 1
        · intro w hSw; (try dsimp only at hSw); go_simp <;> (try with_reducible rfl)
        try simp only [Act.put, List.getElem_toArray, List.getElem_cons_succ, List.getElem_cons_zero, List.setIfInBounds_toArray, List.set_cons_zero, List.set_cons_succ]
        refine wpAnyJ_take0 (i := 15) (v := ?_) rfl (by kernel_rfl) (by kernel_rfl) (by kernel_rfl) (fun _ _ _ h => h) (by rfl) (Or.inl ⟨by rfl, ?_⟩) (by assumption) ?_
        rotate_left 1
        · intro w hSw; (try dsimp only at hSw); go_simp <;> (try with_reducible rfl)
        try simp only [Act.put, List.getElem_toArray, List.getElem_cons_succ, List.getElem_cons_zero, List.setIfInBounds_toArray, List.set_cons_zero, List.set_cons_succ]
        refine wpAnyJ_take0 (i := 16) (v := ?_) rfl (by kernel_rfl) (by kernel_rfl) (by kernel_rfl) (fun _ _ _ h => h) (by rfl) (Or.inl ⟨by rfl, ?_⟩) (by assumption) ?_
        rotate_left 1
        · intro w hSw; (try dsimp only at hSw); go_simp <;> (try with_reducible rfl)
        try simp only [Act.put, List.getElem_toArray, List.getElem_cons_succ, List.getElem_cons_zero, List.setIfInBounds_toArray, List.set_cons_zero, List.set_cons_succ]
        refine wpAnyJ_take0 (i := 17) (v := ?_) rfl (by kernel_rfl) (by kernel_rfl) (by kernel_rfl) (fun _ _ _ h => h) (by rfl) (Or.inl ⟨by rfl, ?_⟩) (by assumption) ?_
        rotate_left 1
        · intro w hSw; (try dsimp only at hSw); go_simp <;> (try with_reducible rfl)
        try simp only [Act.put, List.getElem_toArray, List.getElem_cons_succ, List.getElem_cons_zero, List.setIfInBounds_toArray, List.set_cons_zero, List.set_cons_succ]
        refine wpAnyJ_take (i := 18) (v := ?_) rfl (by kernel_rfl) (by kernel_rfl) (by kernel_rfl) (fun _ _ _ h => h) (by rfl) rfl (by kernel_rfl) (by kernel_rfl) (Or.inl ⟨by rfl, ?_⟩) (by assumption) ?_
        rotate_left 1
        · intro w hSw; (try dsimp only at hSw); go_simp <;> (try with_reducible rfl)
        try simp only [Act.put, List.getElem_toArray, List.getElem_cons_succ, List.getElem_cons_zero, List.setIfInBounds_toArray, List.set_cons_zero, List.set_cons_succ]
        refine wpAnyJ_ready (rs := [10]) (by kernel_rfl) (by simp) ?_
        refine AllReadyJ.cons (o := _) rfl (fun Kq hKq => ?_) ?_
        · go_simp
          go_at_call 23
          refine (hckA.out (.slice A3 32 c3) (.slice Ak 20 ck) (.slice A9 P.length c9) LK WX hlk.out (seesB_of h3.out (Nat.le_refl _) hbC.out) (seesB_of hsk.out (Nat.le_refl _) (bgo hb2.out hbC.out)) (h9.out.below hbC.out).sees).mono ?_
          rw [hc1.out]
          rintro e WX ⟨rfl, hal⟩
          replace hbC := Lib.hid (bgo hbC.out hal)
          clear hal
          go_wp2_with fail
          refine hKq.out _ _ ?_ (fun hHeld => ?_)
          · intro _; (try dsimp only); (first | exact K.out _ (bgo hb2.out hbC.out) | exact K.out _ (bgo hb2.out (bdrew W14)) | exact K.out _ hb2.out)
          clear hKq Kq
          try simp only [Act.put, List.getElem_toArray, List.getElem_cons_succ, List.getElem_cons_zero, List.setIfInBounds_toArray, List.set_cons_zero, List.set_cons_succ]
          refine wpAnyJ_ready (rs := [19]) (by kernel_rfl) (by simp) ?_
          refine AllReadyJ.cons (o := _) rfl (fun Kq hKq => ?_) ?_
          · go_simp
            go_at_call 14
            refine (rsame_any _ _ _ _ LI LK WX (seesB_of hsi.out (Nat.le_refl _) (bgo hb2.out hbC.out)) (seesB_of hsk.out (Nat.le_refl _) (bgo hb2.out hbC.out))).mono ?_
            rintro e WX ⟨rfl, rfl⟩
            rw [hbb.out]
            go_wp2_with fail
            refine hKq.out _ _ ?_ (fun hHeld => ?_)
            · intro _; (try dsimp only); (first | exact K.out _ (bgo hb2.out hbC.out) | exact K.out _ (bgo hb2.out (bdrew W14)) | exact K.out _ hb2.out)
            clear hKq Kq
            try simp only [Act.put, List.getElem_toArray, List.getElem_cons_succ, List.getElem_cons_zero, List.setIfInBounds_toArray, List.set_cons_zero, List.set_cons_succ]
            refine wpAnyJ_take0 (i := 20) (v := ?_) rfl (by kernel_rfl) (by kernel_rfl) (by kernel_rfl) (fun _ _ _ h => h) (by rfl) (Or.inl ⟨by rfl, ?_⟩) (by assumption) ?_
            rotate_left 1
            · intro w hSw; (try dsimp only at hSw); go_simp <;> (try with_reducible rfl)
            try simp only [Act.put, List.getElem_toArray, List.getElem_cons_succ, List.getElem_cons_zero, List.setIfInBounds_toArray, List.set_cons_zero, List.set_cons_succ]
            refine wpAnyJ_take0 (i := 21) (v := ?_) rfl (by kernel_rfl) (by kernel_rfl) (by kernel_rfl) (fun _ _ _ h => h) (by rfl) (Or.inl ⟨by rfl, ?_⟩) (by assumption) ?_
            rotate_left 1
            · intro w hSw; (try dsimp only at hSw); go_simp <;> (try with_reducible rfl)
            try simp only [Act.put, List.getElem_toArray, List.getElem_cons_succ, List.getElem_cons_zero, List.setIfInBounds_toArray, List.set_cons_zero, List.set_cons_succ]
            refine wpAnyJ_ready (rs := [22]) (by kernel_rfl) (by simp) ?_
            refine AllReadyJ.cons (o := _) rfl (fun Kq hKq => ?_) ?_
            · go_simp
              refine hKq.out _ _ ?_ (fun hHeld => ?_)
              · intro hl; exact absurd hl (by decide)
              clear hKq Kq
              try simp only [Act.put, List.getElem_toArray, List.getElem_cons_succ, List.getElem_cons_zero, List.setIfInBounds_toArray, List.set_cons_zero, List.set_cons_succ]
              refine wpAnyJ_done (by kernel_rfl) ?_ _
              go_wp2_with fail
              go_ret
              exact ⟨ret_bool (by cases bb <;> rfl), bgo hb.out (bgo hb2.out hbC.out)⟩
            exact AllReadyJ.nil
          exact AllReadyJ.nil
        exact AllReadyJ.nil
      exact AllReadyJ.nil
end Go.Proofs.Ytpdphpekgphniaa

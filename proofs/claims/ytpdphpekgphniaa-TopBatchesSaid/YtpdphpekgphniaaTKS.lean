/- Contract of sectimetop.roused09: the root of two leaves is signed, and verified for itself and for no other bytes; the answer is true. No conditions. -/
import Derived.Test.YtpdphpekgphniaaTKM
import Derived.Test.YtpdphpekgphniaaTKR
namespace Go.Proofs.Ytpdphpekgphniaa
open Go.RowKit
set_option linter.unusedVariables false
attribute [local go_sem ↓] Go.wp_at_zero Go.wp_at_succ
theorem other_run (W : World) (G : Nat) (hG : G = W.heap.size) : (convert 22 22 (.slice (some ⟨G, 0, none⟩) 5 5)).run Try.prog (W.alloc (.cells #[.int .u8 111, .int .u8 116, .int .u8 104, .int .u8 101, .int .u8 114] 5)) = .ok (.slice (some ⟨G, 0, none⟩) 5 5) (W.alloc (.cells #[.int .u8 111, .int .u8 116, .int .u8 104, .int .u8 101, .int .u8 114] 5 (5, 6))) :=
  by subst hG; exact Lib.run_convert_bytes_const W 22 5 _ 5 5 Try.underlying22 Try.underlying5
theorem other_sees (W : World) (G : Nat) (hG : G = W.heap.size) : SeesB (W.alloc (.cells #[.int .u8 111, .int .u8 116, .int .u8 104, .int .u8 101, .int .u8 114] 5 (5, 6))) (G + 1) (.slice (some ⟨G, 0, none⟩) 5 5) V.other := by
  subst hG
  refine ⟨rfl, _, _, rfl, Nat.le_refl _, by simp [maxLen], fun _ => ⟨_, _, rfl, by omega, fun k u hk => ?_⟩⟩
  rw [Nat.zero_add, ← hk]
  refine (World.cell?_alloc_mark W _ _ _ k).trans ?_
  rw [show (#[.int .u8 111, .int .u8 116, .int .u8 104, .int .u8 101, .int .u8 114] : Array Value) = (vb V.other).toArray from rfl, List.getElem?_toArray]
set_option maxRecDepth 100000 in
set_option maxHeartbeats 1000000 in
theorem roused_any (w : World) : Calls Try.prog 5 #[] w (BoolPost true w) := by
  have hmk : ∀ W : World, (Instr.makeSlice 22 (.int .i64 32) (.int .i64 32)).run Try.prog W = .ok (.slice (some ⟨W.heap.size, 0, none⟩) 32 32) (W.alloc (.cells (vb V.zs).toArray 5)) := fun W => make_bytes 32 (by omega) W
  have hzl := V.zs_len
  have hself : Hid (verifyG (keyG V.zs 0) (rootG [leafH [1], leafH [2]]) (sigG V.zs 0 0 (rootG [leafH [1], leafH [2]])) = true) := verify_sig V.zs 0 0 _ (by omega) (by omega) (by rw [V.root_lit]; decide)
  have hoth : Hid (verifyG (keyG V.zs 0) V.other (sigG V.zs 0 0 (rootG [leafH [1], leafH [2]])) = false) := V.other_false
  have hRl : (rootG [leafH [1], leafH [2]]).length = 32 := by rw [V.root_lit]; rfl
  have hkl : Hid ((keyG V.zs 0).length = 32) := keyG_len _ _
  have hpg : Hid (pubG V.zs 0 = keyG V.zs 0) := by show _ = _; simp [pubG, hzl]
  have hpc : Hid (pubC V.zs 0 = 0) := by show _ = _; simp [pubC, hzl]
  have hal := bgo (balloc w (.cells #[.int .u8 1] 5)) (balloc _ (.cells #[.int .u8 2] 5))
  have ha1 := (one_byte w 1 1 rfl).sees
  have ha2 := (one_byte (w.alloc (.cells #[.int .u8 1] 5)) 2 2 rfl).sees
  simp only [World.size_alloc] at ha2
  have ha1b := seesB_of ha1 (Nat.le_refl _) (balloc _ (.cells #[.int .u8 2] 5))
  have hls := seesL_lit ((w.alloc (.cells #[.int .u8 1] 5)).alloc (.cells #[.int .u8 2] 5)) 22 (vs := [.slice (some ⟨w.heap.size, 0, none⟩) 1 1, .slice (some ⟨w.heap.size + 1, 0, none⟩) 1 1]) (ls := [[1], [2]]) ⟨ha1b, by rw [World.size_alloc, World.size_alloc]; exact ha2, trivial⟩ (by simp [maxLen])
  have hz2 : ((w.alloc (.cells #[.int .u8 1] 5)).alloc (.cells #[.int .u8 2] 5)).heap.size = w.heap.size + 1 + 1 := by rw [World.size_alloc, World.size_alloc]
  rw [hz2] at hls
  have hrt := root_top _ _ _ _ hls (Nat.le_refl _) (by simp) (by simp)
  unfold RootPost at hrt
  change Calls _ _ _ _ (fun e w' => ∃ v, e = .returned (.tuple #[v, .int .i64 0]) ∧ OwnB w' _ v (rootG [leafH [1], leafH [2]]) ∧ Below _ _ w') at hrt
  generalize rootG [leafH [1], leafH [2]] = R at *
  generalize V.zs = zs at *
  generalize hoe : V.other = other at *
  replace hoe := Lib.hid hoe
  have hal3 := Lib.hid (bgo hal (balloc _ (.cells #[.slice (some ⟨w.heap.size, 0, none⟩) 1 1, .slice (some ⟨w.heap.size + 1, 0, none⟩) 1 1] 22)))
  replace hrt := Lib.hid hrt
  replace hal := Lib.hid hal
  replace hz2 := Lib.hid hz2
  replace hRl := Lib.hid hRl
  replace hzl := Lib.hid hzl
  clear ha1 ha2 ha1b hls
  go_enter Try.func5, Try.ntmps5
  go_wp2_with fail
  refine hrt.out.mono ?_
  rintro e W1 ⟨v1, rfl, h1, hb1⟩
  replace hb1 := bgo hal3.out hb1
  obtain ⟨A1, c1, rfl, -, -⟩ := h1.sees.mk_
  rw [hRl.out] at h1 ⊢
  replace h1 := Lib.hid h1
  replace hb1 := Lib.hid hb1
  clear hrt hal hal3 hz2
  dsimp only
  go_wp2_with fail
  have hb2 := balloc W1 (.cells (vb zs).toArray 5)
  have hz := (own_made W1 zs (by rw [hzl.out]; simp [maxLen]) W1.heap.size (Nat.le_refl _)).sees
  rw [hzl.out] at hz
  have h12 := h1.out.below hb2
  replace hb2 := bgo hb1.out hb2
  have hs2 : (W1.alloc (.cells (vb zs).toArray 5)).heap.size = W1.heap.size + 1 := World.size_alloc _ _
  clear hb1 h1
  generalize W1.alloc (.cells (vb zs).toArray 5) = W2 at *
  generalize W1.heap.size = G0 at *
  have hb3 := balloc W2 (.cells #[.slice (some ⟨G0, 0, none⟩) 32 32, .int .i64 0, .int .i64 0] 44)
  have hx3 := Box.new W2 44 [.slice (some ⟨G0, 0, none⟩) 32 32, .int .i64 0, .int .i64 0]
  rw [hs2] at hx3
  have hz3 := seesB_of hz (Nat.le_refl _) hb3
  have h13 := h12.below hb3
  replace hb3 := bgo hb2 hb3
  clear h12 hz hb2 hs2
  change Box (W2.alloc (.cells #[.slice (some ⟨G0, 0, none⟩) 32 32, .int .i64 0, .int .i64 0] 44)) _ _ _ at hx3
  generalize W2.alloc (.cells #[.slice (some ⟨G0, 0, none⟩) 32 32, .int .i64 0, .int .i64 0] 44) = W3 at *
  have hpb := public_any _ (.slice (some ⟨G0, 0, none⟩) 32 32) zs 0 _ hz3 (Nat.le_refl _)
  unfold KeyPost at hpb
  rw [hpc.out, hpg.out] at hpb
  refine hpb.mono ?_
  rintro e W4 ⟨v4, rfl, h4, hb4⟩
  obtain ⟨A4, c4, rfl, -, -⟩ := h4.mk_
  rw [hkl.out] at h4 ⊢
  have hz4 := seesB_of hz3 (Nat.le_refl _) hb4
  have h14 := h13.below hb4
  have hx4 := hx3.below hb4
  replace hb4 := bgo hb3 hb4
  obtain ⟨x0, x1, x2, -⟩ := box3_cells hx4
  have hsg : Calls Try.prog 19 #[.agg #[.slice (some ⟨G0, 0, none⟩) 32 32, .int .i64 0, .int .i64 0], .slice A1 32 c1] W4 (fun e w' => ∃ v v2, e = .returned (.tuple #[.agg #[v, .int .i64 0, .int .i64 1], v2, .int .i64 0]) ∧ SeesB w' w'.heap.size v zs ∧ SeesB w' w'.heap.size v2 (sigG zs 0 0 R) ∧ Below W4.heap.size W4 w') :=
    sign_ok W4.heap.size _ _ zs R 0 0 W4 hz4 h14.sees (Nat.le_refl _) hzl.out (by omega) (by omega) (by have := hRl.out; omega)
  replace hsg := Lib.hid hsg
  replace h4 := Lib.hid h4
  replace h14 := Lib.hid h14
  replace hb4 := Lib.hid hb4
  clear hpb hz3 h13 hx3 hb3 hz4 hx4
  dsimp only
  go_wp2_with fail
  refine hsg.out.mono ?_
  rintro e W5 ⟨v5, v6, rfl, h5, h6, hb5⟩
  obtain ⟨A5, c5, rfl, -, -⟩ := h5.mk_
  obtain ⟨A6, c6, rfl, -, -⟩ := h6.mk_
  have hsl : (sigG zs 0 0 R).length = 565 := by rw [sigG_len]
  generalize sigG zs 0 0 R = sg at *
  rw [hzl.out] at h5 ⊢
  rw [hsl] at h6 ⊢
  replace hsl := Lib.hid hsl
  have hb6 := balloc W5 (.cells #[.slice A5 32 c5, .int .i64 0, .int .i64 1] 44)
  have h66 := seesB_of h6 (Nat.le_refl _) hb6
  have h46 := seesB_of h4.out (Nat.le_refl _) (bgo hb5 hb6)
  have h16 := seesB_of (h14.out.sees) (Nat.le_refl _) (bgo hb5 hb6)
  replace hb6 := bgo hb4.out (bgo hb5 hb6)
  clear hsg h5 h6 h4 h14 hb4 hb5 x0 x1 x2
  dsimp only
  go_wp2_with fail
  change Calls _ _ _ (W5.alloc (.cells #[.slice A5 32 c5, .int .i64 0, .int .i64 1] 44)) _
  generalize W5.alloc (.cells #[.slice A5 32 c5, .int .i64 0, .int .i64 1] 44) = W6 at *
  have hv1 := verify_any W6.heap.size _ _ _ (keyG zs 0) R sg W6 h46 h16 h66 (Nat.le_refl _) (by have := hRl.out; omega) (by have := hsl.out; omega)
  rw [hself.out] at hv1
  refine hv1.mono ?_
  rintro e W7 ⟨rfl, hb7⟩
  have h47 := seesB_of h46 (Nat.le_refl _) hb7
  have h67 := seesB_of h66 (Nat.le_refl _) hb7
  replace hb7 := bgo hb6 hb7
  have hcv := other_run W7 W7.heap.size rfl
  have hbB := balloc W7 (.cells #[.int .u8 111, .int .u8 116, .int .u8 104, .int .u8 101, .int .u8 114] 5 (5, 6))
  have hm := other_sees W7 W7.heap.size rfl
  rw [hoe.out] at hm
  have hz : (W7.alloc (.cells #[.int .u8 111, .int .u8 116, .int .u8 104, .int .u8 101, .int .u8 114] 5 (5, 6))).heap.size = W7.heap.size + 1 := World.size_alloc _ _
  have hver := verify_any _ _ _ _ (keyG zs 0) other sg (W7.alloc (.cells #[.int .u8 111, .int .u8 116, .int .u8 104, .int .u8 101, .int .u8 114] 5 (5, 6))) (seesB_of h47 (Nat.le_refl _) hbB) (hm.more (by omega)) (seesB_of h67 (Nat.le_refl _) hbB) (Nat.le_refl _) (by rw [← hoe.out]; decide) (by have := hsl.out; omega)
  rw [hoth.out] at hver
  replace hver := Lib.hid hver
  have hb8 := Lib.hid (bgo hb7 hbB)
  clear h47 h67 hb7 hm hz hbB hb6 h46 h16 h66 hv1
  dsimp only
  go_wp2_with fail
  refine hver.out.mono ?_
  rintro e W9 ⟨rfl, hb9⟩
  dsimp only
  go_wp2_with fail
  go_ret
  exact ⟨rfl, bgo hb8.out hb9⟩
end Go.Proofs.Ytpdphpekgphniaa

/- The walk of the statement SignerRefuses: true. No conditions. -/
import Derived.Test.YtjlobdediebpcaaGreatChanged
namespace Go.Proofs.YtjlobdediebpcaaGreat
open Go.RowKit
set_option linter.unusedVariables false
attribute [local go_sem ↓] Go.wp_at_zero Go.wp_at_succ
theorem sign_all_one (S : Bs) (j : Nat) (m : Bs) (hS : S.length = 32) (hj : j < 2) : signAll S 1 (j : Int) m = (S, 1, (j : Int) + 1, sigG S 1 j m, 0) := by
  unfold signAll
  have h : validI S 1 (j : Int) = true := validI_mk S 1 j hS (by omega) (by omega)
  rw [if_pos h, if_neg (by show ¬ ((j : Int) = 2 ^ 1); omega)]
  rfl
theorem pub_one (S : Bs) (hS : S.length = 32) : pubC S 1 = 0 ∧ pubG S 1 = keyG S 1 := by
  unfold pubC pubG
  rw [if_pos hS, if_pos (by omega), if_pos ⟨hS, by omega⟩]
  exact ⟨rfl, rfl⟩
set_option maxRecDepth 100000 in
set_option maxHeartbeats 2000000 in
theorem srefuses_law (sd : Int) (wf0 : (Lit.int .i64 sd).wf = true) (at_ : Int) (wf1 : (Lit.int .i64 at_).wf = true) (by_ : Int) (wf2 : (Lit.int .i64 by_).wf = true) (what : Int) (wf3 : (Lit.int .i64 what).wf = true) (w : World) :
    Calls Tryz.prog 3 #[.int .i64 sd, .int .i64 at_, .int .i64 by_, .int .i64 what] w fun e w' => e = .returned (.bool true) ∧ Below w.heap.size w w' := by
  clear wf0 wf1 wf2 wf3
  obtain ⟨a, ha, ha2⟩ := wmod_nat sd 1000 (by omega)
  obtain ⟨j, hj, hj2⟩ := wmod_nat at_ 2 (by omega)
  obtain ⟨k, hk, hk2⟩ := wmod_nat what 3 (by omega)
  have q1 := fun W => within_any sd 1000 (by omega) (by omega) W
  have q2 := fun W => within_any at_ 2 (by omega) (by omega) W
  have q3 := fun W => within_any what 3 (by omega) (by omega) W
  rw [ha] at q1
  rw [hj] at q2
  rw [hk] at q3
  have hS := bytesW_len (a : Int) 32
  have q4 := fun W => wkey_any (a : Int) W
  generalize bytesW (a : Int) 32 = S at *
  have hml := bytesW_len ((a : Int) + 9) 30
  have q5 := fun W => wbytes_any ((a : Int) + 9) 30 (by omega) W
  rw [show (((30 : Nat) : Int)) = 30 from rfl] at q5
  generalize bytesW ((a : Int) + 9) 30 = m at *
  have k1 := fun B u W hu hB => rpublic_any B u S 1 W hu hB
  unfold KeyPost at k1
  rw [(pub_one S hS).1, (pub_one S hS).2] at k1
  have k2 := fun B u u2 W hu hu2 hB => rsign_all B u u2 S m 1 (j : Int) W hu hu2 hB (by omega)
  rw [sign_all_one S j m hS (by omega)] at k2
  unfold SignPost at k2
  dsimp only at k2
  have hls := sigG_len S 1 j m
  have k5 := fun B u u2 u3 W hu hu2 hu3 hB => verify_any B u u2 u3 (keyG S 1) m (sigG S 1 j m) W hu hu2 hu3 hB (by omega) (by omega)
  rw [verify_sig S 1 j m (by omega) (by omega) (by omega)] at k5
  have hpl := keyG_len S 1
  generalize sigG S 1 j m = X at *
  generalize keyG S 1 = P at *
  replace q1 := Lib.hid q1
  replace q2 := Lib.hid q2
  replace q3 := Lib.hid q3
  replace q4 := Lib.hid q4
  replace q5 := Lib.hid q5
  replace k1 := Lib.hid k1
  replace k2 := Lib.hid k2
  replace k5 := Lib.hid k5
  replace ha := Lib.hid ha
  replace hj := Lib.hid hj
  replace hk := Lib.hid hk
  replace hS := Lib.hid hS
  replace hml := Lib.hid hml
  replace hls := Lib.hid hls
  replace hpl := Lib.hid hpl
  go_enter Tryz.func3, Tryz.ntmps3
  go_wp2_with fail
  refine (q1.out _).mono ?_
  rintro e w0 ⟨rfl, hw0⟩
  obtain rfl := hw0.symm
  dsimp only
  go_wp2_with fail
  refine (q4.out _).mono ?_
  rintro e w1 ⟨v1, rfl, s1, hb1, -⟩
  obtain ⟨A1, c1, rfl, -, -⟩ := s1.mk_
  dsimp only
  go_wp2_with fail
  refine (q2.out _).mono ?_
  rintro e w0 ⟨rfl, hw0⟩
  obtain rfl := hw0.symm
  have hbA := balloc w1 (.cells #[.slice A1 S.length c1, .int .i64 1, .int .i64 (j : Int)] 26)
  have hx := Box.new w1 26 [.slice A1 S.length c1, .int .i64 1, .int .i64 (j : Int)]
  change Box (w1.alloc (.cells #[.slice A1 S.length c1, .int .i64 1, .int .i64 (j : Int)] 26)) _ _ _ at hx
  replace s1 := (s1.below hbA).more hbA.size
  replace hb1 := bgo hb1 hbA
  dsimp only
  go_wp2_with fail
  refine (q1.out _).mono ?_
  rintro e w0 ⟨rfl, hw0⟩
  obtain rfl := hw0.symm
  dsimp only
  go_wp2_with fail
  refine (q5.out _).mono ?_
  rintro e w2 ⟨v2, rfl, s2, hb2, -⟩
  obtain ⟨A2, c2, rfl, -, -⟩ := s2.mk_
  replace hx := hx.below hb2
  replace s1 := (s1.below hb2).more hb2.size
  replace hb1 := bgo hb1 hb2
  generalize hG : w1.heap.size = G at hx ⊢
  have x0 := hx.cell 0
  have x1 := hx.cell 1
  have x2 := hx.cell 2
  simp only [List.getElem?_cons_zero, List.getElem?_cons_succ] at x0 x1 x2
  replace hG := Lib.hid hG
  dsimp only
  go_wp2_with fail
  refine (k1.out _ _ _ s1 (Nat.le_refl _)).mono ?_
  rintro e w3 ⟨v3, rfl, s3, hb3⟩
  obtain ⟨A3, c3, rfl, -, -⟩ := s3.mk_
  replace hx := hx.below hb3
  replace s1 := (s1.below hb3).more hb3.size
  replace s2 := (s2.below hb3).more hb3.size
  replace hb1 := bgo hb1 hb3
  clear x0 x1 x2
  have x0 := hx.cell 0
  have x1 := hx.cell 1
  have x2 := hx.cell 2
  simp only [List.getElem?_cons_zero, List.getElem?_cons_succ] at x0 x1 x2
  dsimp only
  go_wp2_with fail
  refine (k2.out _ _ _ _ s1 s2 (Nat.le_refl _)).mono ?_
  rintro e w4 ⟨v4, v5, rfl, s4, s5, hb4⟩
  obtain ⟨A4, c4, rfl, -, -⟩ := s4.mk_
  obtain ⟨A5, c5, rfl, -, -⟩ := s5.mk_
  have hbB := balloc w4 (.cells #[.slice A4 S.length c4, .int .i64 1, .int .i64 ((j : Int) + 1)] 26)
  replace s2 := (((s2.below hb4).more hb4.size).below hbB).more hbB.size
  replace s3 := (((s3.below hb4).more hb4.size).below hbB).more hbB.size
  replace s5 := (s5.below hbB).more hbB.size
  replace hb1 := bgo (bgo hb1 hb4) hbB
  clear x0 x1 x2 hx s1 s4
  dsimp only
  go_wp2_with fail
  refine (k5.out _ _ _ _ _ s3 s2 s5 (Nat.le_refl _)).mono ?_
  rintro e w5 ⟨rfl, hb5⟩
  replace s2 := (s2.below hb5).more hb5.size
  replace s3 := (s3.below hb5).more hb5.size
  replace s5 := (s5.below hb5).more hb5.size
  replace hb1 := bgo hb1 hb5
  dsimp only
  go_wp2_with fail
  refine (q3.out _).mono ?_
  rintro e w0 ⟨rfl, hw0⟩
  obtain rfl := hw0.symm
  dsimp only
  rcases (by omega : k = 0 ∨ k = 1 ∨ k = 2) with rfl | rfl | rfl
  · have hc := changed_any _ _ X at_ by_ _ s5 (Nat.le_refl _) (by rw [hls.out]; omega) (by rw [hls.out]; omega)
    have hcl := changedW_len X at_ by_
    generalize changedW X at_ by_ = X2 at *
    replace hcl := Lib.hid hcl
    replace hc := Lib.hid hc
    go_wp2_with fail
    refine hc.out.mono ?_
    rintro e w6 ⟨v6, rfl, s6, hb6⟩
    replace s2 := (s2.below hb6).more hb6.size
    replace s3 := (s3.below hb6).more hb6.size
    replace s5 := (s5.below hb6).more hb6.size
    have s6 := s6.sees
    obtain ⟨A6, c6, rfl, -, -⟩ := s6.mk_
    replace s5 := s6
    replace hb1 := bgo hb1 hb6
    dsimp only
    go_wp2_with fail
    refine (sknown_any _).mono ?_
    rintro e w7 ⟨rfl, hb7⟩
    replace s2 := (s2.below hb7).more hb7.size
    replace s3 := (s3.below hb7).more hb7.size
    replace s5 := (s5.below hb7).more hb7.size
    replace hb1 := bgo hb1 hb7
    dsimp only
    go_wp2_with fail
    refine (verify_any _ _ _ _ P m X2 _ s3 s2 s5 (Nat.le_refl _) (by have := hcl.out; have := hml.out; omega) (by have := hcl.out; have := hls.out; omega)).mono ?_
    rintro e w8 ⟨rfl, hb8⟩
    replace s2 := (s2.below hb8).more hb8.size
    replace s3 := (s3.below hb8).more hb8.size
    replace s5 := (s5.below hb8).more hb8.size
    replace hb1 := bgo hb1 hb8
    dsimp only
    go_wp2_with fail
    refine (rverify_any _ _ _ _ P m X2 _ s3 s2 s5 (Nat.le_refl _) (by have := hcl.out; have := hml.out; omega) (by have := hcl.out; have := hls.out; omega)).mono ?_
    rintro e w9 ⟨rfl, hb9⟩
    replace hb1 := bgo hb1 hb9
    generalize verifyG P m X2 = V at *
    dsimp only
    go_wp2_with fail
    go_ret
    exact ⟨ret_bool (by simp), hb1⟩
  · have hc := changed_any _ _ m at_ by_ _ s2 (Nat.le_refl _) (by rw [hml.out]; omega) (by rw [hml.out]; omega)
    have hcl := changedW_len m at_ by_
    generalize changedW m at_ by_ = m2 at *
    replace hcl := Lib.hid hcl
    replace hc := Lib.hid hc
    go_wp2_with fail
    refine hc.out.mono ?_
    rintro e w6 ⟨v6, rfl, s6, hb6⟩
    replace s2 := (s2.below hb6).more hb6.size
    replace s3 := (s3.below hb6).more hb6.size
    replace s5 := (s5.below hb6).more hb6.size
    have s6 := s6.sees
    obtain ⟨A6, c6, rfl, -, -⟩ := s6.mk_
    replace s2 := s6
    replace hb1 := bgo hb1 hb6
    dsimp only
    go_wp2_with fail
    refine (sknown_any _).mono ?_
    rintro e w7 ⟨rfl, hb7⟩
    replace s2 := (s2.below hb7).more hb7.size
    replace s3 := (s3.below hb7).more hb7.size
    replace s5 := (s5.below hb7).more hb7.size
    replace hb1 := bgo hb1 hb7
    dsimp only
    go_wp2_with fail
    refine (verify_any _ _ _ _ P m2 X _ s3 s2 s5 (Nat.le_refl _) (by have := hcl.out; have := hml.out; omega) (by have := hcl.out; have := hls.out; omega)).mono ?_
    rintro e w8 ⟨rfl, hb8⟩
    replace s2 := (s2.below hb8).more hb8.size
    replace s3 := (s3.below hb8).more hb8.size
    replace s5 := (s5.below hb8).more hb8.size
    replace hb1 := bgo hb1 hb8
    dsimp only
    go_wp2_with fail
    refine (rverify_any _ _ _ _ P m2 X _ s3 s2 s5 (Nat.le_refl _) (by have := hcl.out; have := hml.out; omega) (by have := hcl.out; have := hls.out; omega)).mono ?_
    rintro e w9 ⟨rfl, hb9⟩
    replace hb1 := bgo hb1 hb9
    generalize verifyG P m2 X = V at *
    dsimp only
    go_wp2_with fail
    go_ret
    exact ⟨ret_bool (by simp), hb1⟩
  · have hc := changed_any _ _ P at_ by_ _ s3 (Nat.le_refl _) (by rw [hpl.out]; omega) (by rw [hpl.out]; omega)
    have hcl := changedW_len P at_ by_
    generalize changedW P at_ by_ = P2 at *
    replace hcl := Lib.hid hcl
    replace hc := Lib.hid hc
    go_wp2_with fail
    refine hc.out.mono ?_
    rintro e w6 ⟨v6, rfl, s6, hb6⟩
    replace s2 := (s2.below hb6).more hb6.size
    replace s3 := (s3.below hb6).more hb6.size
    replace s5 := (s5.below hb6).more hb6.size
    have s6 := s6.sees
    obtain ⟨A6, c6, rfl, -, -⟩ := s6.mk_
    replace s3 := s6
    replace hb1 := bgo hb1 hb6
    dsimp only
    go_wp2_with fail
    refine (sknown_any _).mono ?_
    rintro e w7 ⟨rfl, hb7⟩
    replace s2 := (s2.below hb7).more hb7.size
    replace s3 := (s3.below hb7).more hb7.size
    replace s5 := (s5.below hb7).more hb7.size
    replace hb1 := bgo hb1 hb7
    dsimp only
    go_wp2_with fail
    refine (verify_any _ _ _ _ P2 m X _ s3 s2 s5 (Nat.le_refl _) (by have := hcl.out; have := hml.out; omega) (by have := hcl.out; have := hls.out; omega)).mono ?_
    rintro e w8 ⟨rfl, hb8⟩
    replace s2 := (s2.below hb8).more hb8.size
    replace s3 := (s3.below hb8).more hb8.size
    replace s5 := (s5.below hb8).more hb8.size
    replace hb1 := bgo hb1 hb8
    dsimp only
    go_wp2_with fail
    refine (rverify_any _ _ _ _ P2 m X _ s3 s2 s5 (Nat.le_refl _) (by have := hcl.out; have := hml.out; omega) (by have := hcl.out; have := hls.out; omega)).mono ?_
    rintro e w9 ⟨rfl, hb9⟩
    replace hb1 := bgo hb1 hb9
    generalize verifyG P2 m X = V at *
    dsimp only
    go_wp2_with fail
    go_ret
    exact ⟨ret_bool (by simp), hb1⟩
end Go.Proofs.YtjlobdediebpcaaGreat

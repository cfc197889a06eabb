/- The walk of the statement SignerSigns: true. No conditions. -/
import Derived.Test.YtjlobdediebpcaaBytes
namespace Go.Proofs.Ytjlobdediebpcaa
open Go.RowKit
set_option linter.unusedVariables false
attribute [local go_sem ↓] Go.wp_at_zero Go.wp_at_succ
theorem pub_ok (S : Bs) (k : Nat) (hS : S.length = 32) (hk : k ≤ 6) : pubC S (k : Int) = 0 ∧ pubG S (k : Int) = keyG S k := by
  unfold pubC pubG
  rw [if_pos hS, if_pos (by omega), if_pos ⟨hS, by omega⟩, Int.toNat_natCast]
  exact ⟨rfl, rfl⟩
theorem sign_all_ok (S : Bs) (k j : Nat) (m : Bs) (hS : S.length = 32) (hk : k ≤ 6) (hj : j < 2 ^ k) : signAll S (k : Int) (j : Int) m = (S, (k : Int), ((j + 1 : Nat) : Int), sigG S k j m, 0) := by
  unfold signAll
  rw [if_pos (validI_mk S k j hS hk (by omega)), if_neg (by rw [Int.toNat_natCast]; intro h; have : (j : Int) < ((2 ^ k : Nat) : Int) := by omega
                                                            rw [h] at this; simp at this), Int.toNat_natCast, Int.toNat_natCast]
  rfl
theorem left_ok (S : Bs) (k j : Nat) (hS : S.length = 32) (hk : k ≤ 6) (hj : j ≤ 2 ^ k) : leftC S (k : Int) (j : Int) = 0 ∧ leftI S (k : Int) (j : Int) = ((2 ^ k : Nat) : Int) - (j : Int) := by
  unfold leftC leftI
  rw [if_pos (validI_mk S k j hS hk hj), if_pos (validI_mk S k j hS hk hj), Int.toNat_natCast]
  exact ⟨rfl, by simp⟩
theorem index_ok (S : Bs) (k j : Nat) (m : Bs) (hk : k ≤ 6) (hj : j < 2 ^ k) : indexC (sigG S k j m) = 0 ∧ indexG (sigG S k j m) = (j : Int) := by
  unfold indexC indexG
  rw [parts_sig S k j m hk hj]
  exact ⟨rfl, rfl⟩
theorem mod_nat (v m : Int) (hm : 0 < m) : ∃ k : Nat, v % m = (k : Int) ∧ (k : Int) < m := by
  have h1 := Int.emod_nonneg v (show m ≠ 0 by omega)
  have h2 := Int.emod_lt_of_pos v hm
  exact ⟨(v % m).toNat, by omega, by omega⟩
set_option maxRecDepth 100000 in
set_option maxHeartbeats 2000000 in
theorem ssigns_law (sd : Int) (wf0 : (Lit.int .i64 sd).wf = true) (h : Int) (wf1 : (Lit.int .i64 h).wf = true) (n : Int) (wf2 : (Lit.int .i64 n).wf = true)
    (B : Nat) (v : Value) (m : Bs) (w : World) (hu : SeesB w B v m) (hB : B ≤ w.heap.size) :
    Calls Try.prog 8 #[.int .i64 sd, .int .i64 h, .int .i64 n, v] w fun e w' => e = .returned (.bool true) ∧ Below w.heap.size w w' := by
  have m2 := fun W (hW : Below w.heap.size w W) => (hu.below (hW.mono hB)).more (Nat.le_trans hB hW.size)
  obtain ⟨A, c, rfl, -, -⟩ := hu.mk_
  clear hu wf0 wf1 wf2
  by_cases hm : m.length ≤ 60
  · have i1 : ¬ ((60 : Int) < (m.length : Int)) := by omega
    obtain ⟨k, hk, hk3⟩ := mod_nat h 3 (by omega)
    have hk6 : k ≤ 6 := by omega
    have q1 := fun W => within_any h 3 (by omega) (by omega) W
    rw [hk] at q1
    have hp := wrap_pow k hk6
    have hp64 := pow_le64 k hk6
    obtain ⟨j, hj, hj2⟩ := mod_nat n ((2 ^ k : Nat) : Int) (by omega)
    have hj3 : j < 2 ^ k := by omega
    have q2 := fun W => within_any n ((2 ^ k : Nat) : Int) (by omega) (by omega) W
    rw [hj] at q2
    have q3 := fun W => within_any sd 1000 (by omega) (by omega) W
    have hS := bytesW_len (sd % 1000) 32
    have q4 := fun W => wkey_any (sd % 1000) W
    generalize bytesW (sd % 1000) 32 = S at *
    have m0 : IntKind.u64.wrap (k : Int) = (k : Int) := by rw [IntKind.wrap_u64]; omega
    have k1 := fun B u W hu hB => public_any B u S (k : Int) W hu hB
    unfold KeyPost at k1
    rw [(pub_ok S k hS hk6).1, (pub_ok S k hS hk6).2] at k1
    have k2 := fun B u u2 W hu hu2 hB => sign_all B u u2 S m (k : Int) (j : Int) W hu hu2 hB (by omega)
    rw [sign_all_ok S k j m hS hk6 hj3] at k2
    unfold SignPost at k2
    dsimp only at k2
    have hls := sigG_len S k j m
    have k3 := fun B u W hu hB => index_any B u (sigG S k j m) W hu hB (by omega)
    unfold IndexPost at k3
    rw [(index_ok S k j m hk6 hj3).1, (index_ok S k j m hk6 hj3).2] at k3
    have k4 := fun B u W hu hB => left_any B u S (k : Int) ((j + 1 : Nat) : Int) W hu hB
    unfold LeftPost at k4
    rw [(left_ok S k (j + 1) hS hk6 (by omega)).1, (left_ok S k (j + 1) hS hk6 (by omega)).2] at k4
    have k5 := fun B u u2 u3 W hu hu2 hu3 hB => verify_any B u u2 u3 (keyG S k) m (sigG S k j m) W hu hu2 hu3 hB (by omega) (by omega)
    rw [verify_sig S k j m hk6 hj3 (by omega)] at k5
    generalize sigG S k j m = X at *
    generalize keyG S k = P at *
    generalize 2 ^ k = N at *
    replace q1 := Lib.hid q1
    replace q2 := Lib.hid q2
    replace q3 := Lib.hid q3
    replace q4 := Lib.hid q4
    replace k1 := Lib.hid k1
    replace k2 := Lib.hid k2
    replace k3 := Lib.hid k3
    replace k4 := Lib.hid k4
    replace k5 := Lib.hid k5
    replace hk := Lib.hid hk
    replace hj := Lib.hid hj
    replace hS := Lib.hid hS
    replace hls := Lib.hid hls
    go_enter Try.func8, Try.ntmps8
    go_wp2_with fail
    refine (q1.out _).mono ?_
    rintro e w0 ⟨rfl, rfl⟩
    dsimp only
    go_wp2_with fail
    refine (q2.out _).mono ?_
    rintro e w0 ⟨rfl, rfl⟩
    dsimp only
    go_wp2_with fail
    refine (q3.out _).mono ?_
    rintro e w0 ⟨rfl, rfl⟩
    dsimp only
    go_wp2_with fail
    refine (q4.out _).mono ?_
    rintro e w1 ⟨v1, rfl, s1, hb1, -⟩
    obtain ⟨A1, c1, rfl, -, -⟩ := s1.mk_
    have hbA := balloc w1 (.cells #[.slice A1 S.length c1, .int .i64 (k : Int), .int .i64 (j : Int)] 38)
    have hx := Box.new w1 38 [.slice A1 S.length c1, .int .i64 (k : Int), .int .i64 (j : Int)]
    change Box (w1.alloc (.cells #[.slice A1 S.length c1, .int .i64 (k : Int), .int .i64 (j : Int)] 38)) _ _ _ at hx
    replace s1 := (s1.below hbA).more hbA.size
    replace hb1 := bgo hb1 hbA
    dsimp only
    go_wp2_with fail
    refine (k1.out _ _ _ s1 (Nat.le_refl _)).mono ?_
    rintro e w2 ⟨v2, rfl, s2, hb2⟩
    obtain ⟨A2, c2, rfl, -, -⟩ := s2.mk_
    replace hx := hx.below hb2
    replace s1 := (s1.below hb2).more hb2.size
    replace hb1 := bgo hb1 hb2
    generalize hG : w1.heap.size = G at hx ⊢
    have x0 := hx.cell 0
    have x1 := hx.cell 1
    have x2 := hx.cell 2
    simp only [List.getElem?_cons_zero, List.getElem?_cons_succ] at x0 x1 x2
    replace hG := Lib.hid hG
    dsimp only
    go_wp2_with fail
    refine (k2.out _ _ _ _ s1 (m2 _ hb1) (Nat.le_refl _)).mono ?_
    rintro e w3 ⟨v3, v4, rfl, s3, s4, hb3⟩
    obtain ⟨A3, c3, rfl, -, -⟩ := s3.mk_
    obtain ⟨A4, c4, rfl, -, -⟩ := s4.mk_
    have hbB := balloc w3 (.cells #[.slice A3 S.length c3, .int .i64 (k : Int), .int .i64 ((j + 1 : Nat) : Int)] 38)
    have hy := Box.new w3 38 [.slice A3 S.length c3, .int .i64 (k : Int), .int .i64 ((j + 1 : Nat) : Int)]
    change Box (w3.alloc (.cells #[.slice A3 S.length c3, .int .i64 (k : Int), .int .i64 ((j + 1 : Nat) : Int)] 38)) _ _ _ at hy
    replace s2 := (((s2.below hb3).more hb3.size).below hbB).more hbB.size
    replace s3 := (s3.below hbB).more hbB.size
    replace s4 := (s4.below hbB).more hbB.size
    replace hb1 := bgo (bgo hb1 hb3) hbB
    clear x0 x1 x2 hx s1
    dsimp only
    go_wp2_with fail
    refine (k3.out _ _ _ s4 (Nat.le_refl _)).mono ?_
    rintro e w5 ⟨rfl, hb5⟩
    replace hy := hy.below hb5
    replace s2 := (s2.below hb5).more hb5.size
    replace s3 := (s3.below hb5).more hb5.size
    replace s4 := (s4.below hb5).more hb5.size
    replace hb1 := bgo hb1 hb5
    generalize hG2 : w3.heap.size = G2 at hy ⊢
    have x0 := hy.cell 0
    have x1 := hy.cell 1
    have x2 := hy.cell 2
    simp only [List.getElem?_cons_zero, List.getElem?_cons_succ] at x0 x1 x2
    replace hG2 := Lib.hid hG2
    dsimp only
    go_wp2_with fail
    refine (k4.out _ _ _ s3 (Nat.le_refl _)).mono ?_
    rintro e w6 ⟨rfl, hb6⟩
    replace s2 := (s2.below hb6).more hb6.size
    replace s4 := (s4.below hb6).more hb6.size
    replace hb1 := bgo hb1 hb6
    clear x0 x1 x2 hy s3
    dsimp only
    go_wp2_with fail
    refine (sknown_any _).mono ?_
    rintro e w7 ⟨rfl, hb7⟩
    replace s2 := (s2.below hb7).more hb7.size
    replace s4 := (s4.below hb7).more hb7.size
    replace hb1 := bgo hb1 hb7
    dsimp only
    go_wp2_with fail
    refine (k5.out _ _ _ _ _ s2 (m2 _ hb1) s4 (Nat.le_refl _)).mono ?_
    rintro e w8 ⟨rfl, hb8⟩
    replace hb1 := bgo hb1 hb8
    dsimp only
    go_wp2_with fail
    go_ret
    exact ⟨ret_bool (by simp), hb1⟩
  · have i1 : (60 : Int) < (m.length : Int) := by omega
    go_enter Try.func8, Try.ntmps8
    go_wp2_with fail
    refine (sknown_any _).mono ?_
    rintro e w1 ⟨rfl, hb1⟩
    dsimp only
    go_wp2_with fail
    go_ret
    exact ⟨rfl, hb1⟩
end Go.Proofs.Ytjlobdediebpcaa

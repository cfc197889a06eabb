/- The walk of the statement SignerUsesUp: true. No conditions. -/
import Derived.Test.YtjlobdediebpcaaSSigns
namespace Go.Proofs.Ytjlobdediebpcaa
open Go.RowKit
set_option linter.unusedVariables false
attribute [local go_sem ↓] Go.wp_at_zero Go.wp_at_succ
theorem noBL3 {a b c : Value} (ha : NoB a) (hb : NoB b) (hc : NoB c) : NoByte [a, b, c] := by
  intro x hx n e
  simp only [List.mem_cons, List.not_mem_nil, or_false] at hx
  rcases hx with rfl | rfl | rfl
  · exact ha n e
  · exact hb n e
  · exact hc n e
theorem box_set3 {W : World} {g : Nat} {T : TypeId} {a b c : Value} (h : Box W g T [a, b, c]) (x0 x1 x2 : Value) : Box (((W.setCell ⟨g, 0, none⟩ x0).setCell ⟨g, 1, none⟩ x1).setCell ⟨g, 2, none⟩ x2) g T [x0, x1, x2] := by
  have y := ((h.set 0 x0).set 1 x1).set 2 x2
  simpa only [List.set_cons_zero, List.set_cons_succ] using y
theorem below_set3 {w W : World} {g : Nat} (h : Below w.heap.size w W) (hg : w.heap.size ≤ g) (x0 x1 x2 : Value) : Below w.heap.size w (((W.setCell ⟨g, 0, none⟩ x0).setCell ⟨g, 1, none⟩ x1).setCell ⟨g, 2, none⟩ x2) :=
  ((h.setCell (p := ⟨g, 0, none⟩) hg _).setCell (p := ⟨g, 1, none⟩) hg _).setCell (p := ⟨g, 2, none⟩) hg _
theorem SeesB.poke3 {W : World} {B g : Nat} {T : TypeId} {u a b c : Value} {l : Bs} (h : SeesB W B u l) (hx : Box W g T [a, b, c]) (ha : NoB a) (hb : NoB b) (hc : NoB c) (x0 x1 x2 : Value) (h0 : NoB x0) (h1 : NoB x1) :
    SeesB (((W.setCell ⟨g, 0, none⟩ x0).setCell ⟨g, 1, none⟩ x1).setCell ⟨g, 2, none⟩ x2) B u l := by
  have k0 := h.poke (j := 0) (v' := x0) hx (noBL3 ha hb hc)
  have y0 := hx.set 0 x0
  simp only [List.set_cons_zero] at y0
  have k1 := k0.poke (j := 1) (v' := x1) y0 (noBL3 h0 hb hc)
  have y1 := y0.set 1 x1
  simp only [List.set_cons_zero, List.set_cons_succ] at y1
  exact k1.poke (j := 2) (v' := x2) y1 (noBL3 h0 h1 hc)
theorem size_set3 (W : World) (g : Nat) (x0 x1 x2 : Value) : (((W.setCell ⟨g, 0, none⟩ x0).setCell ⟨g, 1, none⟩ x1).setCell ⟨g, 2, none⟩ x2).heap.size = W.heap.size := by simp [World.setCell]
/-- The signer's block, its seed seen, so many used. -/
def KeyAt (S : Bs) (k j G : Nat) (wr : World) : Prop := ∃ A c, Box wr G 38 [.slice A S.length c, .int .i64 (k : Int), .int .i64 (j : Int)] ∧ SeesB wr wr.heap.size (.slice A S.length c) S
set_option maxRecDepth 100000 in
set_option maxHeartbeats 2000000 in
theorem susesup_law (sd : Int) (wf0 : (Lit.int .i64 sd).wf = true) (h : Int) (wf1 : (Lit.int .i64 h).wf = true) (w : World) :
    Calls Try.prog 9 #[.int .i64 sd, .int .i64 h] w fun e w' => e = .returned (.bool true) ∧ Below w.heap.size w w' := by
  clear wf0 wf1
  obtain ⟨k, hk, hk3⟩ := mod_nat h 2 (by omega)
  have hk6 : k ≤ 6 := by omega
  have hk1 : k ≤ 1 := by omega
  have q1 := fun W => within_any h 2 (by omega) (by omega) W
  rw [hk] at q1
  have hp := wrap_pow k hk6
  have hp64 : 1 ≤ 2 ^ k ∧ 2 ^ k ≤ 2 := by rcases (by omega : k = 0 ∨ k = 1) with rfl | rfl <;> decide
  have q3 := fun W => within_any sd 1000 (by omega) (by omega) W
  have hS := bytesW_len (sd % 1000) 32
  have q4 := fun W => wkey_any (sd % 1000) W
  generalize bytesW (sd % 1000) 32 = S at *
  have m0 : IntKind.u64.wrap (k : Int) = (k : Int) := by rw [IntKind.wrap_u64]; omega
  have q5 := fun (j : Nat) (hj : j ≤ 64) W => wbytes_any sd (5 + j) (by omega) W
  have k1 := fun B u W hu hB => public_any B u S (k : Int) W hu hB
  unfold KeyPost at k1
  rw [(pub_ok S k hS hk6).1, (pub_ok S k hS hk6).2] at k1
  have k2 : ∀ (j : Nat) (hj : j < 2 ^ k) (m : Bs) (hm : m.length ≤ 100) B u u2 W (hu : SeesB W B u S) (hu2 : SeesB W B u2 m) (hB : B ≤ W.heap.size), Calls Try.prog 20 #[.agg #[u, .int .i64 (k : Int), .int .i64 (j : Int)], u2] W (SignPost (S, (k : Int), ((j + 1 : Nat) : Int), sigG S k j m, 0) W) := fun j hj m hm B u u2 W hu hu2 hB => by
    have := sign_all B u u2 S m (k : Int) (j : Int) W hu hu2 hB (by omega)
    rwa [sign_all_ok S k j m hS hk6 hj] at this
  have k3 : ∀ (j : Nat) (hj : j < 2 ^ k) (m : Bs) B u W (hu : SeesB W B u (sigG S k j m)) (hB : B ≤ W.heap.size), Calls Try.prog 27 #[u] W fun e W' => e = .returned (.tuple #[.int .i64 (j : Int), .int .i64 0]) ∧ Below W.heap.size W W' := fun j hj m B u W hu hB => by
    have := index_any B u (sigG S k j m) W hu hB (by rw [sigG_len]; omega)
    unfold IndexPost at this
    rwa [(index_ok S k j m hk6 hj).1, (index_ok S k j m hk6 hj).2] at this
  have k4 := fun B u W hu hB => left_any B u S (k : Int) ((2 ^ k : Nat) : Int) W hu hB
  unfold LeftPost at k4
  rw [(left_ok S k (2 ^ k) hS hk6 (Nat.le_refl _)).1, (left_ok S k (2 ^ k) hS hk6 (Nat.le_refl _)).2] at k4
  have k5 : ∀ (j : Nat) (hj : j < 2 ^ k) (m : Bs) (hm : m.length ≤ 100) B u u2 u3 W (hu : SeesB W B u (keyG S k)) (hu2 : SeesB W B u2 m) (hu3 : SeesB W B u3 (sigG S k j m)) (hB : B ≤ W.heap.size), Calls Try.prog 29 #[u, u2, u3] W (BoolPost true W) := fun j hj m hm B u u2 u3 W hu hu2 hu3 hB => by
    have := verify_any B u u2 u3 (keyG S k) m (sigG S k j m) W hu hu2 hu3 hB (by omega) (by rw [sigG_len]; omega)
    rwa [verify_sig S k j m hk6 hj (by omega)] at this
  have k6 : ∀ B u W (hu : SeesB W B u S) (hB : B ≤ W.heap.size), Calls Try.prog 20 #[.agg #[u, .int .i64 (k : Int), .int .i64 ((2 ^ k : Nat) : Int)], .slice none 0 0] W (SignBad 7 W) := fun B u W hu hB => sign_bad7 B u (.slice none 0 0) S k W hu hB hS hk6
  have hsl : ∀ (j : Nat) (m : Bs), (sigG S k j m).length = 565 + 32 * k := fun j m => sigG_len S k j m
  generalize sigG S k = X at *
  generalize keyG S k = P at *
  generalize 2 ^ k = N at *
  replace q1 := Lib.hid q1
  replace q3 := Lib.hid q3
  replace q4 := Lib.hid q4
  replace q5 := Lib.hid q5
  replace k1 := Lib.hid k1
  replace k2 := Lib.hid k2
  replace k3 := Lib.hid k3
  replace k4 := Lib.hid k4
  replace k5 := Lib.hid k5
  replace k6 := Lib.hid k6
  replace hk := Lib.hid hk
  replace hS := Lib.hid hS
  replace hsl := Lib.hid hsl
  go_enter Try.func9, Try.ntmps9
  go_wp2_with fail
  refine (q1.out _).mono ?_
  rintro e w0 ⟨rfl, hw0⟩
  obtain rfl := hw0.symm
  dsimp only
  go_wp2_with fail
  refine (q3.out _).mono ?_
  rintro e w0 ⟨rfl, hw0⟩
  obtain rfl := hw0.symm
  dsimp only
  go_wp2_with fail
  refine (q4.out _).mono ?_
  rintro e w1 ⟨v1, rfl, s1, hb1, -⟩
  obtain ⟨A1, c1, rfl, -, -⟩ := s1.mk_
  have hbA := balloc w1 (.cells #[.slice A1 S.length c1, .int .i64 (k : Int), .int .i64 0] 38)
  have hx := Box.new w1 38 [.slice A1 S.length c1, .int .i64 (k : Int), .int .i64 0]
  change Box (w1.alloc (.cells #[.slice A1 S.length c1, .int .i64 (k : Int), .int .i64 0] 38)) _ _ _ at hx
  replace s1 := (s1.below hbA).more hbA.size
  have hGw := hb1.size
  replace hb1 := bgo hb1 hbA
  dsimp only
  go_wp2_with fail
  refine (k1.out _ _ _ s1 (Nat.le_refl _)).mono ?_
  rintro e w2 ⟨v2, rfl, s2, hb2⟩
  obtain ⟨A2, c2, rfl, -, -⟩ := s2.mk_
  replace hx := hx.below hb2
  replace s1 := (s1.below hb2).more hb2.size
  replace hb1 := bgo hb1 hb2
  generalize hG : w1.heap.size = G at hx hGw ⊢
  replace hG := Lib.hid hG
  have hkey : Hid (KeyAt S k 0 G w2) := ⟨A1, c1, hx, s1⟩
  replace s2 := Lib.hid s2
  replace hb1 := Lib.hid hb1
  replace hGw := Lib.hid hGw
  clear hx s1 hbA hb2
  dsimp only
  go_wp2_with fail
  go_loopw [8, 9, 10, 11, 12, 13, 14] (fun t _ _ _ _ _ _ wr => ∃ j : Nat, j ≤ N ∧ t = .int .i64 j ∧ Hid (KeyAt S k j G wr) ∧ Hid (SeesB wr wr.heap.size (.slice A2 P.length c2) P) ∧ Hid (Below w.heap.size w wr)) (fun t _ _ _ _ _ _ _ => N - (intOf t).toNat)
  case atStart => exact ⟨0, by omega, rfl, hkey, s2, hb1⟩
  case round =>
    clear hkey s2 hb1
    obtain ⟨j, hj, rfl, hkey, s2, hb1⟩ := hrel
    obtain ⟨A1, c1, hx, s1⟩ := hkey.out
    have x0 := hx.cell 0
    have x1 := hx.cell 1
    have x2 := hx.cell 2
    simp only [List.getElem?_cons_zero, List.getElem?_cons_succ] at x0 x1 x2
    by_cases hlt : j < N
    · have i0 : (j : Int) < (N : Int) := by omega
      have q5j := q5.out j (by omega) wr
      rw [show ((5 + j : Nat) : Int) = 5 + (j : Int) by omega] at q5j
      have hml := bytesW_len sd (5 + j)
      generalize bytesW sd (5 + j) = m at *
      replace q5j := Lib.hid q5j
      replace hml := Lib.hid hml
      have j1 : IntKind.i64.wrap (5 + (j : Int)) = 5 + (j : Int) := by rw [IntKind.wrap_i64]; omega
      go_wp2_with fail
      refine q5j.out.mono ?_
      rintro e w3 ⟨v3, rfl, s3, hb3, -⟩
      obtain ⟨A3, c3, rfl, -, -⟩ := s3.mk_
      replace hx := hx.below hb3
      replace s1 := (s1.below hb3).more hb3.size
      replace s2 := Lib.hid ((s2.out.below hb3).more hb3.size)
      replace hb1 := Lib.hid (bgo hb1.out hb3)
      clear x0 x1 x2 hkey
      have x0 := hx.cell 0
      have x1 := hx.cell 1
      have x2 := hx.cell 2
      simp only [List.getElem?_cons_zero, List.getElem?_cons_succ] at x0 x1 x2
      dsimp only
      go_wp2_with fail
      refine (k2.out j hlt m (by rw [hml.out]; omega) _ _ _ _ s1 s3 (Nat.le_refl _)).mono ?_
      rintro e w4 ⟨v4, v5, rfl, s4, s5, hb4⟩
      dsimp only at s4 s5
      obtain ⟨A4, c4, rfl, -, -⟩ := s4.mk_
      obtain ⟨A5, c5, rfl, -, -⟩ := s5.mk_
      have hbB := balloc w4 (.cells #[.slice A4 S.length c4, .int .i64 (k : Int), .int .i64 ((j + 1 : Nat) : Int)] 38)
      have hy := Box.new w4 38 [.slice A4 S.length c4, .int .i64 (k : Int), .int .i64 ((j + 1 : Nat) : Int)]
      change Box (w4.alloc (.cells #[.slice A4 S.length c4, .int .i64 (k : Int), .int .i64 ((j + 1 : Nat) : Int)] 38)) _ _ _ at hy
      replace hx := (hx.below hb4).below hbB
      replace s2 := Lib.hid ((((s2.out.below hb4).more hb4.size).below hbB).more hbB.size)
      replace s3 := ((((s3.below hb4).more hb4.size).below hbB).more hbB.size)
      replace s4 := (s4.below hbB).more hbB.size
      replace s5 := (s5.below hbB).more hbB.size
      replace hb1 := Lib.hid (bgo (bgo hb1.out hb4) hbB)
      clear x0 x1 x2 s1
      dsimp only
      go_wp2_with fail
      refine (k3.out j hlt m _ _ _ s5 (Nat.le_refl _)).mono ?_
      rintro e w5 ⟨rfl, hb5⟩
      replace hx := hx.below hb5
      replace hy := hy.below hb5
      replace s2 := Lib.hid ((s2.out.below hb5).more hb5.size)
      replace s3 := (s3.below hb5).more hb5.size
      replace s4 := (s4.below hb5).more hb5.size
      replace s5 := (s5.below hb5).more hb5.size
      replace hb1 := Lib.hid (bgo hb1.out hb5)
      generalize hG2 : w4.heap.size = G2 at hy ⊢
      have y0 := hy.cell 0
      have y1 := hy.cell 1
      have y2 := hy.cell 2
      simp only [List.getElem?_cons_zero, List.getElem?_cons_succ] at y0 y1 y2
      replace hG2 := Lib.hid hG2
      dsimp only
      go_wp2_with fail
      refine (k5.out j hlt m (by rw [hml.out]; omega) _ _ _ _ _ s2.out s3 s5 (Nat.le_refl _)).mono ?_
      rintro e w6 ⟨rfl, hb6⟩
      replace hx := hx.below hb6
      replace hy := hy.below hb6
      replace s2 := (s2.out.below hb6).more hb6.size
      replace s4 := (s4.below hb6).more hb6.size
      replace hb1 := bgo hb1.out hb6
      clear y0 y1 y2 s3 s5
      have y0 := hy.cell 0
      have y1 := hy.cell 1
      have y2 := hy.cell 2
      simp only [List.getElem?_cons_zero, List.getElem?_cons_succ] at y0 y1 y2
      have e1 := box_set3 hx (.slice A4 S.length c4) (.int .i64 (k : Int)) (.int .i64 ((j + 1 : Nat) : Int))
      have e2 := s2.poke3 hx (NoB.s _ _ _) (NoB.i _) (NoB.i _) (.slice A4 S.length c4) (.int .i64 (k : Int)) (.int .i64 ((j + 1 : Nat) : Int)) (NoB.s _ _ _) (NoB.i _)
      have e3 := s4.poke3 hx (NoB.s _ _ _) (NoB.i _) (NoB.i _) (.slice A4 S.length c4) (.int .i64 (k : Int)) (.int .i64 ((j + 1 : Nat) : Int)) (NoB.s _ _ _) (NoB.i _)
      have e4 := below_set3 hb1 hGw.out (.slice A4 S.length c4) (.int .i64 (k : Int)) (.int .i64 ((j + 1 : Nat) : Int))
      rw [← size_set3 w6 G (.slice A4 S.length c4) (.int .i64 (k : Int)) (.int .i64 ((j + 1 : Nat) : Int))] at e2 e3
      have x0 := hx.cell 0
      have x1 := hx.cell 1
      have x2 := hx.cell 2
      simp only [List.getElem?_cons_zero, List.getElem?_cons_succ] at x0 x1 x2
      have f0 := hx.frozen 0
      have f1 := hx.frozen 1
      have f2 := hx.frozen 2
      replace e1 := Lib.hid e1
      replace e2 := Lib.hid e2
      replace e3 := Lib.hid e3
      replace e4 := Lib.hid e4
      clear s2 s4 hx hb1
      dsimp only
      go_wp2_with fail
      go_roundw
      case rel => exact ⟨j + 1, by omega, by go_num, ⟨_, _, e1.out, e3.out⟩, e2.out, e4.out⟩
      case measure => simp [intOf]; omega
    · have hjN : j = N := by omega
      subst hjN
      have i0 : ¬ ((j : Int) < (j : Int)) := by omega
      go_wp2_with fail
      refine (k4.out _ _ _ s1 (Nat.le_refl _)).mono ?_
      rintro e w3 ⟨rfl, hb3⟩
      replace hx := hx.below hb3
      replace s1 := (s1.below hb3).more hb3.size
      replace hb1 := bgo hb1.out hb3
      clear x0 x1 x2 hkey s2
      have x0 := hx.cell 0
      have x1 := hx.cell 1
      have x2 := hx.cell 2
      simp only [List.getElem?_cons_zero, List.getElem?_cons_succ] at x0 x1 x2
      dsimp only
      go_wp2_with fail
      refine (k6.out _ _ _ s1 (Nat.le_refl _)).mono ?_
      rintro e w4 ⟨rfl, hb4⟩
      replace hb1 := bgo hb1 hb4
      clear x0 x1 x2 s1 hx
      have hbB := balloc w4 (.cells #[.slice none 0 0, .int .i64 0, .int .i64 0] 38)
      replace hb1 := bgo hb1 hbB
      dsimp only
      go_wp2_with fail
      refine (sknown_any _).mono ?_
      rintro e w5 ⟨rfl, hb5⟩
      replace hb1 := bgo hb1 hb5
      dsimp only
      go_wp2_with fail
      go_ret
      exact ⟨ret_bool (by simp), hb1⟩
end Go.Proofs.Ytjlobdediebpcaa

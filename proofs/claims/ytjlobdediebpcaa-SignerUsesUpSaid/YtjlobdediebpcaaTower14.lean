/- Contract of sectimeref09.Same at two equal signers: true. Conditions: that the seeds are seen. Contract of signer.Sign and sectimeref09.Sign at any signer: what signAll says. Conditions: a message of at most 65535 bytes, the seed and the message seen. Contract of sectimeworld.Within: v modulo m, from 0 on. Conditions: m from 1 to 2^32. What the walk is told of a signer that came in. Conditions: that the argument reads as data. The walk of the statement SignerActs: true. No conditions. -/
import Derived.Test.YtjlobdediebpcaaTower13
import Derived.Test.YtjlobdediebpcaaTower3
namespace Go.Proofs.Ytjlobdediebpcaa
open Go.RowKit
set_option linter.unusedVariables false
attribute [local go_sem ↓] Go.wp_at_zero Go.wp_at_succ
set_option maxRecDepth 100000 in
theorem rsigsame_any (u u2 : Value) (l : Bs) (h n : Int) (w : World) (hu : SeesB w w.heap.size u l) (hu2 : SeesB w w.heap.size u2 l) :
    Calls Try.prog 26 #[.agg #[u, .int .i64 h, .int .i64 n], .agg #[u2, .int .i64 h, .int .i64 n]] w (BoolPost true w) := by
  obtain ⟨A, c, rfl, -, -⟩ := hu.mk_
  obtain ⟨A2, c2, rfl, -, -⟩ := hu2.mk_
  have hb := bgo (balloc w (.cells #[.slice A l.length c, .int .i64 h, .int .i64 n] 38)) (balloc _ (.cells #[.slice A2 l.length c2, .int .i64 h, .int .i64 n] 38))
  have hs := rsame_any _ _ _ _ l l _ (hu.below hb) (hu2.below hb)
  rw [beq_self_eq_true] at hs
  replace hs := Lib.hid hs
  replace hb := Lib.hid hb
  clear hu hu2
  go_enter Try.func26, Try.ntmps26
  go_wp2_with fail
  refine hs.out.mono ?_
  rintro e w4 ⟨rfl, rfl⟩
  dsimp only
  go_wp2_with fail
  go_ret
  exact ⟨ret_bool (by simp), hb.out⟩
end Go.Proofs.Ytjlobdediebpcaa
namespace Go.Proofs.Ytjlobdediebpcaa
open Go.RowKit
set_option linter.unusedVariables false
/-- seed, height, next, signature, error -/
def signAll (seed : Bs) (h n : Int) (m : Bs) : Bs × Int × Int × Bs × Int :=
  if validI seed h n = true then
    if n = 2 ^ h.toNat then ([], 0, 0, [], 7)
    else (seed, h, n + 1, sigG seed h.toNat n.toNat m, 0)
  else ([], 0, 0, [], 3)
def SignPost (r : Bs × Int × Int × Bs × Int) (w : World) (e : Ending) (w' : World) : Prop :=
  ∃ v v2, e = .returned (.tuple #[.agg #[v, .int .i64 r.2.1, .int .i64 r.2.2.1], v2, .int .i64 r.2.2.2.2]) ∧ SeesB w' w'.heap.size v r.1 ∧ SeesB w' w'.heap.size v2 r.2.2.2.1 ∧ Below w.heap.size w w'
theorem signBad_post {c : Int} {w w' : World} {e : Ending} (h : SignBad c w e w') : SignPost ([], 0, 0, [], c) w e w' :=
  ⟨_, _, h.1, SeesB.nil _ _, SeesB.nil _ _, h.2⟩
theorem signOk_post {seed m : Bs} {h i : Nat} {w w' : World} {e : Ending} (hs : SignOk seed h i m w e w') : SignPost (seed, (h : Int), (i : Int) + 1, sigG seed h i m, 0) w e w' := by
  obtain ⟨v, v2, h1, h2, h3, h4⟩ := hs
  exact ⟨v, v2, by rw [h1]; simp, h2, h3, h4⟩
theorem sign_all (B : Nat) (u u2 : Value) (seed m : Bs) (h n : Int) (w : World) (hu : SeesB w B u seed) (hu2 : SeesB w B u2 m) (hB : B ≤ w.heap.size) (hm : m.length ≤ 65535) :
    Calls Try.prog 20 #[.agg #[u, .int .i64 h, .int .i64 n], u2] w (SignPost (signAll seed h n m) w) := by
  by_cases hv : validI seed h n = true
  · have hh : seed.length = 32 ∧ 0 ≤ h ∧ h ≤ 6 ∧ 0 ≤ n ∧ n ≤ 2 ^ h.toNat := by simp [validI] at hv; omega
    obtain ⟨hl, h0, h1, h2, h3⟩ := hh
    obtain ⟨k, rfl⟩ := Int.eq_ofNat_of_zero_le h0
    obtain ⟨i, rfl⟩ := Int.eq_ofNat_of_zero_le h2
    rw [Int.toNat_natCast] at h3
    have hpc : ((2 ^ k : Nat) : Int) = (2 : Int) ^ k := by simp
    by_cases hn : (i : Int) = 2 ^ k
    · have : signAll seed k i m = ([], 0, 0, [], 7) := by
        rw [signAll, if_pos hv, if_pos (by rw [Int.toNat_natCast]; exact hn)]
      rw [this, hn, ← hpc]
      exact (sign_bad7 B u u2 seed k w hu hB hl (by omega)).mono fun _ _ h => signBad_post h
    · have : signAll seed k i m = (seed, (k : Int), (i : Int) + 1, sigG seed k i m, 0) := by simp [signAll, hv, hn]
      rw [this]
      exact (sign_ok B u u2 seed m k i w hu hu2 hB hl (by omega) (by omega) hm).mono fun _ _ h => signOk_post h
  · have : signAll seed h n m = ([], 0, 0, [], 3) := by simp [signAll, hv]
    rw [this]
    exact (sign_bad3 B u u2 seed h n w hu hB (by simpa using hv)).mono fun _ _ h => signBad_post h
theorem rsign_all (B : Nat) (u u2 : Value) (seed m : Bs) (h n : Int) (w : World) (hu : SeesB w B u seed) (hu2 : SeesB w B u2 m) (hB : B ≤ w.heap.size) (hm : m.length ≤ 65535) :
    Calls Try.prog 21 #[.agg #[u, .int .i64 h, .int .i64 n], u2] w (SignPost (signAll seed h n m) w) := by
  by_cases hv : validI seed h n = true
  · have hh : seed.length = 32 ∧ 0 ≤ h ∧ h ≤ 6 ∧ 0 ≤ n ∧ n ≤ 2 ^ h.toNat := by simp [validI] at hv; omega
    obtain ⟨hl, h0, h1, h2, h3⟩ := hh
    obtain ⟨k, rfl⟩ := Int.eq_ofNat_of_zero_le h0
    obtain ⟨i, rfl⟩ := Int.eq_ofNat_of_zero_le h2
    rw [Int.toNat_natCast] at h3
    have hpc : ((2 ^ k : Nat) : Int) = (2 : Int) ^ k := by simp
    by_cases hn : (i : Int) = 2 ^ k
    · have : signAll seed k i m = ([], 0, 0, [], 7) := by
        rw [signAll, if_pos hv, if_pos (by rw [Int.toNat_natCast]; exact hn)]
      rw [this, hn, ← hpc]
      exact (rsign_bad7 B u u2 seed k w hu hB hl (by omega)).mono fun _ _ h => signBad_post h
    · have : signAll seed k i m = (seed, (k : Int), (i : Int) + 1, sigG seed k i m, 0) := by simp [signAll, hv, hn]
      rw [this]
      exact (rsign_ok B u u2 seed m k i w hu hu2 hB hl (by omega) (by omega) hm).mono fun _ _ h => signOk_post h
  · have : signAll seed h n m = ([], 0, 0, [], 3) := by simp [signAll, hv]
    rw [this]
    exact (rsign_bad3 B u u2 seed h n w hu hB (by simpa using hv)).mono fun _ _ h => signBad_post h
end Go.Proofs.Ytjlobdediebpcaa
namespace Go.Proofs.Ytjlobdediebpcaa
open Go.RowKit
set_option linter.unusedVariables false
attribute [local go_sem ↓] Go.wp_at_zero Go.wp_at_succ
set_option maxRecDepth 100000 in
theorem within_any (v m : Int) (hm : 1 ≤ m) (hm2 : m ≤ 4294967296) (w : World) :
    Calls Try.prog 33 #[.int .i64 v, .int .i64 m] w fun e w' => e = .returned (.int .i64 (v % m)) ∧ w' = w := by
  have h0 : ¬ (m < 1) := by omega
  have hne : m ≠ 0 := by omega
  have e1 := Int.emod_nonneg v hne
  have e2 := Int.emod_lt_of_pos v (show 0 < m by omega)
  have hlt : -m < v.tmod m ∧ v.tmod m < m := ⟨by have := Int.lt_tmod_of_pos v (show 0 < m by omega); omega, Int.tmod_lt_of_pos v (by omega)⟩
  have ht : v % m = if v.tmod m < 0 then v.tmod m + m else v.tmod m := by
    have := Int.tmod_eq_emod (a := v) (b := m)
    rw [this] at hlt ⊢
    split at hlt <;> split <;> split <;> omega
  rw [ht]
  clear ht e1 e2
  have hm0 : (m == 0) = false := by rw [beq_eq_false_iff_ne]; exact hne
  by_cases hr : v.tmod m < 0
  · go_enter Try.func33, Try.ntmps33
    go_wp2_with fail
    go_returns
    exact ⟨ret_int (by simp), rfl⟩
  · go_enter Try.func33, Try.ntmps33
    go_wp2_with fail
    go_returns
    exact ⟨ret_int (by simp), rfl⟩
end Go.Proofs.Ytjlobdediebpcaa
namespace Go.Proofs.Ytjlobdediebpcaa
open Go.ChangeShapes Go.WideShapes Go.ChangeAt Go.RowKit
section
variable {H : Type} {enc : TypeId × Value → H} {w : World} {base : Nat} {r : Reach} {v : Value} {d : DataW H} {ps : List MemPlace}
set_option maxRecDepth 100000 in
theorem open_bytesF {n : Nat} {y : DataW H × List MemPlace} (hf : DataW.trod enc Try.prog w 0 (fun _ => true) true n 24 [v] = some y) : ∃ l : Bs, SeesB w w.heap.size v l := by
  obtain ⟨y1, y2⟩ := y
  rcases open_ints Try.underlying24 Try.underlying5 cells_uint8 hf with ⟨hcs, hx⟩ | ⟨a, len', cap', zs, hcs, _, hl, hm, hz, hx, hcell, hwz⟩
  · simp at hcs
    subst hcs
    exact ⟨[], SeesB.nil _ _⟩
  · simp at hcs
    subst hcs
    simp only [if_true] at hz
    have hlen : ((zs.take len').map fun n => UInt8.ofNat n.toNat).length = len' := by simp; omega
    refine ⟨(zs.take len').map fun n => UInt8.ofNat n.toNat, ?_⟩
    unfold SeesB
    rw [hlen]
    refine ⟨by rw [vb_len, hlen, Nat.mul_one], some a, cap', rfl, hl, hm, fun h0 => ?_⟩
    obtain ⟨b, off, spot⟩ := a
    have hc := hcell 0 (by omega)
    have hspot : spot = none := by simpa [Addr.add] using World.cell?_spot hc
    subst hspot
    refine ⟨b, off, rfl, ?_, fun j u hj => ?_⟩
    · rcases Nat.lt_or_ge b w.heap.size with h1 | h1
      · exact h1
      · exfalso
        have h0 : w.heap[b]? = none := Array.getElem?_eq_none h1
        unfold World.cell? at hc
        rw [add_zero'] at hc
        simp only [h0] at hc
        simp at hc
    · rw [vb_get] at hj
      obtain ⟨x, hx, rfl⟩ := Option.map_eq_some_iff.1 hj
      rw [List.getElem?_map] at hx
      obtain ⟨n, hn, rfl⟩ := Option.map_eq_some_iff.1 hx
      have hj2 : j < len' := by
        have := (List.getElem?_eq_some_iff.1 hn).1
        rw [List.length_take] at this; omega
      rw [List.getElem?_take, if_pos hj2] at hn
      have hc := hcell j (by omega)
      have hw := hwz n (List.mem_of_getElem? hn)
      rw [add_zero', List.getD_eq_getElem?_getD, hn, Option.getD_some] at hc
      have hb := bounds_u8 hw
      rw [hc, byte_of n hb.1 (by omega)]
theorem cells_signer : Try.prog.cellsOf 38 = 3 := by kernel_rfl
set_option maxRecDepth 100000 in
theorem open_signer (hval : Value.okWide Try.prog w r base 38 v) (h : DataW.Trod enc Try.prog w 0 (fun _ => true) true 38 v d ps) :
    ∃ (u : Value) (l : Bs) (a b : Int), v = .agg #[u, .int .i64 a, .int .i64 b] ∧ SeesB w w.heap.size u l ∧ (Lit.int .i64 a).wf = true ∧ (Lit.int .i64 b).wf = true := by
  obtain ⟨c0, c1, c2, y0, y1, y2, m, rfl, rfl, rfl, hy0, hy1, hy2⟩ := Go.Joins.open_agg3 Try.underlying38 (by kernel_rfl) cells_signer hval h
  obtain ⟨l, hl⟩ := open_bytesF hy0
  obtain ⟨a, e0, rfl, wa⟩ := DataW.trod_int Try.underlying3 hy1
  obtain ⟨b, e1, rfl, wb⟩ := DataW.trod_int Try.underlying3 hy2
  simp at e0 e1
  subst e0 e1
  exact ⟨c0, l, a, b, rfl, hl, wa, wb⟩
end
end Go.Proofs.Ytjlobdediebpcaa
namespace Go.Proofs.Ytjlobdediebpcaa
open Go.RowKit
set_option linter.unusedVariables false
attribute [local go_sem ↓] Go.wp_at_zero Go.wp_at_succ
set_option maxRecDepth 100000 in
set_option maxHeartbeats 2000000 in
theorem sacts_law (B : Nat) (u : Value) (l : Bs) (w : World) (hu : SeesB w B u l) (hB : B ≤ w.heap.size) (h n : Int) (wf : (Lit.int .i64 h).wf = true) (wf2 : (Lit.int .i64 n).wf = true)
    (B2 : Nat) (v2 : Value) (m : Bs) (hu2 : SeesB w B2 v2 m) (hB2 : B2 ≤ w.heap.size) :
    Calls Try.prog 5 #[.agg #[u, .int .i64 h, .int .i64 n], v2] w fun e w' => e = .returned (.bool true) ∧ Below w.heap.size w w' := by
  have m1 := fun W (hW : Below w.heap.size w W) => (hu.below (hW.mono hB)).more (Nat.le_trans hB hW.size)
  have m2 := fun W (hW : Below w.heap.size w W) => (hu2.below (hW.mono hB2)).more (Nat.le_trans hB2 hW.size)
  obtain ⟨A, c, rfl, -, -⟩ := hu.mk_
  obtain ⟨A2, c2, rfl, -, -⟩ := hu2.mk_
  clear hu hu2
  by_cases hl : l.length ≤ 60
  · by_cases hm : m.length ≤ 100
    · have i1 : ¬ ((60 : Int) < (l.length : Int)) := by omega
      have i2 : ¬ ((100 : Int) < (m.length : Int)) := by omega
      have k1 := Lib.hid (fun W (hW : Below w.heap.size w W) => sign_all W.heap.size _ _ l m h n W (m1 W hW) (m2 W hW) (Nat.le_refl _) (by omega))
      have k2 := Lib.hid (fun W (hW : Below w.heap.size w W) => rsign_all W.heap.size _ _ l m h n W (m1 W hW) (m2 W hW) (Nat.le_refl _) (by omega))
      have k3 := Lib.hid (fun W (hW : Below w.heap.size w W) => left_any W.heap.size _ l h n W (m1 W hW) (Nat.le_refl _))
      have k4 := Lib.hid (fun W (hW : Below w.heap.size w W) => rleft_any W.heap.size _ l h n W (m1 W hW) (Nat.le_refl _))
      have k5 := Lib.hid (fun W (hW : Below w.heap.size w W) => svalid_any W.heap.size _ l h n W (m1 W hW))
      have k6 := Lib.hid (fun W (hW : Below w.heap.size w W) => rsvalid_any W.heap.size _ l h n W (m1 W hW))
      clear m1 m2
      by_cases hh : 1 < h ∧ h ≤ 6
      · obtain ⟨j1, j2⟩ := hh
        go_enter Try.func5, Try.ntmps5
        go_wp2_with fail
        have hb0 := balloc w (.cells #[.slice A l.length c, .int .i64 h, .int .i64 n] 38)
        refine (sknown_any _).mono ?_
        rintro e w1 ⟨rfl, hb1⟩
        dsimp only
        go_wp2_with fail
        go_ret
        exact ⟨rfl, bgo hb0 hb1⟩
      · have hb0 := balloc w (.cells #[.slice A l.length c, .int .i64 h, .int .i64 n] 38)
        have hx := Box.new w 38 [.slice A l.length c, .int .i64 h, .int .i64 n]
        change Box (w.alloc (.cells #[.slice A l.length c, .int .i64 h, .int .i64 n] 38)) _ _ _ at hx
        have hcnd : (decide (1 < h) && decide (h ≤ 6)) = false := by simp; omega
        generalize signAll l h n m = R at *
        obtain ⟨r1, r2, r3, r4, r5⟩ := R
        by_cases j1 : 1 < h
        · have j2 : decide (h ≤ 6) = false := by rw [decide_eq_false_iff_not]; omega
          clear hh hcnd
          go_enter Try.func5, Try.ntmps5
          go_wp2_with fail
          refine (k1.out _ hb0).mono ?_
          rintro e w1 ⟨v1, v2, rfl, s1, s2, hb1⟩
          obtain ⟨A3, c3, rfl, -, -⟩ := s1.mk_
          obtain ⟨A4, c4, rfl, -, -⟩ := s2.mk_
          replace hx := hx.below hb1
          replace hb1 := bgo hb0 hb1
          have hbA := balloc w1 (.cells #[.slice A3 r1.length c3, .int .i64 r2, .int .i64 r3] 38)
          have hxA := Box.new w1 38 [.slice A3 r1.length c3, .int .i64 r2, .int .i64 r3]
          change Box (w1.alloc (.cells #[.slice A3 r1.length c3, .int .i64 r2, .int .i64 r3] 38)) _ _ _ at hxA
          replace hx := hx.below hbA
          replace hb1 := bgo hb1 hbA
          generalize hG : w.heap.size = G at hx ⊢
          have x0 := hx.cell 0
          have x1 := hx.cell 1
          have x2 := hx.cell 2
          simp only [List.getElem?_cons_zero, List.getElem?_cons_succ] at x0 x1 x2
          replace hG := Lib.hid hG
          dsimp only
          go_wp2_with fail
          refine (k2.out _ hb1).mono ?_
          rintro e w2 ⟨v3, v4, rfl, s3, s4, hb2⟩
          obtain ⟨A5, c5, rfl, -, -⟩ := s3.mk_
          obtain ⟨A6, c6, rfl, -, -⟩ := s4.mk_
          replace s1 := ((s1.below hbA).more hbA.size |>.below hb2).more hb2.size
          replace s2 := ((s2.below hbA).more hbA.size |>.below hb2).more hb2.size
          replace hx := hx.below hb2
          replace hxA := hxA.below hb2
          replace hb1 := bgo hb1 hb2
          clear x0 x1 x2 hbA
          have hbA := balloc w2 (.cells #[.slice A5 r1.length c5, .int .i64 r2, .int .i64 r3] 38)
          have hxB := Box.new w2 38 [.slice A5 r1.length c5, .int .i64 r2, .int .i64 r3]
          change Box (w2.alloc (.cells #[.slice A5 r1.length c5, .int .i64 r2, .int .i64 r3] 38)) _ _ _ at hxB
          replace hx := hx.below hbA
          replace hxA := hxA.below hbA
          replace hb1 := bgo hb1 hbA
          have x0 := hx.cell 0
          have x1 := hx.cell 1
          have x2 := hx.cell 2
          simp only [List.getElem?_cons_zero, List.getElem?_cons_succ] at x0 x1 x2
          dsimp only
          go_wp2_with fail
          refine (k3.out _ hb1).mono ?_
          rintro e w3 ⟨rfl, hb3⟩
          replace hx := hx.below hb3
          replace hxA := hxA.below hb3
          replace hxB := hxB.below hb3
          replace s1 := (((s1.below hbA).more hbA.size).below hb3).more hb3.size
          replace s2 := (((s2.below hbA).more hbA.size).below hb3).more hb3.size
          replace s3 := (((s3.below hbA).more hbA.size).below hb3).more hb3.size
          replace s4 := (((s4.below hbA).more hbA.size).below hb3).more hb3.size
          replace hb1 := bgo hb1 hb3
          clear x0 x1 x2 hbA
          have x0 : w3.cell? ⟨G, 0, none⟩ = some (.slice A l.length c) := hx.cell 0
          have x1 : w3.cell? ⟨G, 1, none⟩ = some (.int .i64 h) := hx.cell 1
          have x2 : w3.cell? ⟨G, 2, none⟩ = some (.int .i64 n) := hx.cell 2
          dsimp only
          go_wp2_with fail
          refine (k4.out _ hb1).mono ?_
          rintro e w4 ⟨rfl, hb4⟩
          replace hx := hx.below hb4
          replace hxA := hxA.below hb4
          replace hxB := hxB.below hb4
          replace s1 := (s1.below hb4).more hb4.size
          replace s2 := (s2.below hb4).more hb4.size
          replace s3 := (s3.below hb4).more hb4.size
          replace s4 := (s4.below hb4).more hb4.size
          replace hb1 := bgo hb1 hb4
          clear x0 x1 x2
          have x0 : w4.cell? ⟨G, 0, none⟩ = some (.slice A l.length c) := hx.cell 0
          have x1 : w4.cell? ⟨G, 1, none⟩ = some (.int .i64 h) := hx.cell 1
          have x2 : w4.cell? ⟨G, 2, none⟩ = some (.int .i64 n) := hx.cell 2
          dsimp only
          go_wp2_with fail
          generalize w1.heap.size = G1 at hxA ⊢
          generalize w2.heap.size = G2 at hxB ⊢
          have K : Hid (∀ W' : World, Below w4.heap.size w4 W' → W'.cell? ⟨G, 0, none⟩ = some (.slice A l.length c) ∧ W'.cell? ⟨G, 1, none⟩ = some (.int .i64 h) ∧ W'.cell? ⟨G, 2, none⟩ = some (.int .i64 n) ∧ W'.cell? ⟨G1, 0, none⟩ = some (.slice A3 r1.length c3) ∧ W'.cell? ⟨G1, 1, none⟩ = some (.int .i64 r2) ∧ W'.cell? ⟨G1, 2, none⟩ = some (.int .i64 r3) ∧ W'.cell? ⟨G2, 0, none⟩ = some (.slice A5 r1.length c5) ∧ W'.cell? ⟨G2, 1, none⟩ = some (.int .i64 r2) ∧ W'.cell? ⟨G2, 2, none⟩ = some (.int .i64 r3)) := fun W hW =>
            ⟨(hx.below hW).cell 0, (hx.below hW).cell 1, (hx.below hW).cell 2, (hxA.below hW).cell 0, (hxA.below hW).cell 1, (hxA.below hW).cell 2, (hxB.below hW).cell 0, (hxB.below hW).cell 1, (hxB.below hW).cell 2⟩
          obtain ⟨-, -, -, x3, x4, x5, x6, x7, x8⟩ := K.out w4 (Below.refl _ _)
          have q5 : Hid (∀ W, Below w4.heap.size w4 W → _) := fun W hW => k5.out W (bgo hb1 hW)
          have q6 : Hid (∀ W, Below w4.heap.size w4 W → _) := fun W hW => k6.out W (bgo hb1 hW)
          have q7 : Hid (∀ W, Below w4.heap.size w4 W → _) := fun W hW => rsigsame_any _ _ r1 r2 r3 W ((s1.below hW).more hW.size) ((s3.below hW).more hW.size)
          have q8 : Hid (∀ W, Below w4.heap.size w4 W → _) := fun W hW => rsame_any _ _ _ _ r4 r4 W (s2.below hW) (s4.below hW)
          generalize validI l h n = V at *
          replace hb1 := Lib.hid hb1
          clear k1 k2 k3 k4 k5 k6 s1 s2 s3 s4 hx hxA hxB
          clear hb0 hb2 hb3 hb4 wf wf2
          go_region_held3 (fun W' : World => W'.cell? ⟨G, 0, none⟩ = some (.slice A l.length c) ∧ W'.cell? ⟨G, 1, none⟩ = some (.int .i64 h) ∧ W'.cell? ⟨G, 2, none⟩ = some (.int .i64 n) ∧ W'.cell? ⟨G1, 0, none⟩ = some (.slice A3 r1.length c3) ∧ W'.cell? ⟨G1, 1, none⟩ = some (.int .i64 r2) ∧ W'.cell? ⟨G1, 2, none⟩ = some (.int .i64 r3) ∧ W'.cell? ⟨G2, 0, none⟩ = some (.slice A5 r1.length c5) ∧ W'.cell? ⟨G2, 1, none⟩ = some (.int .i64 r2) ∧ W'.cell? ⟨G2, 2, none⟩ = some (.int .i64 r3))
            (first | exact K.out _ (by (repeat (first | exact Below.refl _ _ | (refine bgo ?_ (balloc _ _)) | (refine bgo ?_ (bdrew _)) | (refine bgo ?_ (by assumption))))) | (go_keep; done))
            (first
              | (go_at_call 17; refine (sknown_any _).mono ?_; rintro e w5 ⟨rfl, hb5⟩)
              | (go_at_call 24; refine (q5.out _ (by (repeat (first | exact Below.refl _ _ | (refine bgo ?_ (balloc _ _)) | (refine bgo ?_ (bdrew _)) | (refine bgo ?_ (by assumption)))))).mono ?_; rintro e w6 ⟨rfl, hb6⟩)
              | (go_at_call 25; refine (q6.out _ (by (repeat (first | exact Below.refl _ _ | (refine bgo ?_ (balloc _ _)) | (refine bgo ?_ (bdrew _)) | (refine bgo ?_ (by assumption)))))).mono ?_; rintro e w7 ⟨rfl, hb7⟩)
              | (go_at_call 26; refine (q7.out _ (by (repeat (first | exact Below.refl _ _ | (refine bgo ?_ (balloc _ _)) | (refine bgo ?_ (bdrew _)) | (refine bgo ?_ (by assumption)))))).mono ?_; rintro e w8 ⟨rfl, hb8⟩)
              | (go_at_call 15; refine (q8.out _ (by (repeat (first | exact Below.refl _ _ | (refine bgo ?_ (balloc _ _)) | (refine bgo ?_ (bdrew _)) | (refine bgo ?_ (by assumption)))))).mono ?_; rintro e w9 ⟨rfl, rfl⟩))
          all_goals
            go_wp2_with fail
            go_ret
            exact ⟨rfl, bgo hb1.out (by (repeat (first | exact Below.refl _ _ | (refine bgo ?_ (balloc _ _)) | (refine bgo ?_ (bdrew _)) | (refine bgo ?_ (by assumption)))))⟩
        · have j2 : ¬ ((1 : Int) < h) := j1
          clear j1
          clear hh hcnd
          go_enter Try.func5, Try.ntmps5
          go_wp2_with fail
          refine (k1.out _ hb0).mono ?_
          rintro e w1 ⟨v1, v2, rfl, s1, s2, hb1⟩
          obtain ⟨A3, c3, rfl, -, -⟩ := s1.mk_
          obtain ⟨A4, c4, rfl, -, -⟩ := s2.mk_
          replace hx := hx.below hb1
          replace hb1 := bgo hb0 hb1
          have hbA := balloc w1 (.cells #[.slice A3 r1.length c3, .int .i64 r2, .int .i64 r3] 38)
          have hxA := Box.new w1 38 [.slice A3 r1.length c3, .int .i64 r2, .int .i64 r3]
          change Box (w1.alloc (.cells #[.slice A3 r1.length c3, .int .i64 r2, .int .i64 r3] 38)) _ _ _ at hxA
          replace hx := hx.below hbA
          replace hb1 := bgo hb1 hbA
          generalize hG : w.heap.size = G at hx ⊢
          have x0 := hx.cell 0
          have x1 := hx.cell 1
          have x2 := hx.cell 2
          simp only [List.getElem?_cons_zero, List.getElem?_cons_succ] at x0 x1 x2
          replace hG := Lib.hid hG
          dsimp only
          go_wp2_with fail
          refine (k2.out _ hb1).mono ?_
          rintro e w2 ⟨v3, v4, rfl, s3, s4, hb2⟩
          obtain ⟨A5, c5, rfl, -, -⟩ := s3.mk_
          obtain ⟨A6, c6, rfl, -, -⟩ := s4.mk_
          replace s1 := ((s1.below hbA).more hbA.size |>.below hb2).more hb2.size
          replace s2 := ((s2.below hbA).more hbA.size |>.below hb2).more hb2.size
          replace hx := hx.below hb2
          replace hxA := hxA.below hb2
          replace hb1 := bgo hb1 hb2
          clear x0 x1 x2 hbA
          have hbA := balloc w2 (.cells #[.slice A5 r1.length c5, .int .i64 r2, .int .i64 r3] 38)
          have hxB := Box.new w2 38 [.slice A5 r1.length c5, .int .i64 r2, .int .i64 r3]
          change Box (w2.alloc (.cells #[.slice A5 r1.length c5, .int .i64 r2, .int .i64 r3] 38)) _ _ _ at hxB
          replace hx := hx.below hbA
          replace hxA := hxA.below hbA
          replace hb1 := bgo hb1 hbA
          have x0 := hx.cell 0
          have x1 := hx.cell 1
          have x2 := hx.cell 2
          simp only [List.getElem?_cons_zero, List.getElem?_cons_succ] at x0 x1 x2
          dsimp only
          go_wp2_with fail
          refine (k3.out _ hb1).mono ?_
          rintro e w3 ⟨rfl, hb3⟩
          replace hx := hx.below hb3
          replace hxA := hxA.below hb3
          replace hxB := hxB.below hb3
          replace s1 := (((s1.below hbA).more hbA.size).below hb3).more hb3.size
          replace s2 := (((s2.below hbA).more hbA.size).below hb3).more hb3.size
          replace s3 := (((s3.below hbA).more hbA.size).below hb3).more hb3.size
          replace s4 := (((s4.below hbA).more hbA.size).below hb3).more hb3.size
          replace hb1 := bgo hb1 hb3
          clear x0 x1 x2 hbA
          have x0 : w3.cell? ⟨G, 0, none⟩ = some (.slice A l.length c) := hx.cell 0
          have x1 : w3.cell? ⟨G, 1, none⟩ = some (.int .i64 h) := hx.cell 1
          have x2 : w3.cell? ⟨G, 2, none⟩ = some (.int .i64 n) := hx.cell 2
          dsimp only
          go_wp2_with fail
          refine (k4.out _ hb1).mono ?_
          rintro e w4 ⟨rfl, hb4⟩
          replace hx := hx.below hb4
          replace hxA := hxA.below hb4
          replace hxB := hxB.below hb4
          replace s1 := (s1.below hb4).more hb4.size
          replace s2 := (s2.below hb4).more hb4.size
          replace s3 := (s3.below hb4).more hb4.size
          replace s4 := (s4.below hb4).more hb4.size
          replace hb1 := bgo hb1 hb4
          clear x0 x1 x2
          have x0 : w4.cell? ⟨G, 0, none⟩ = some (.slice A l.length c) := hx.cell 0
          have x1 : w4.cell? ⟨G, 1, none⟩ = some (.int .i64 h) := hx.cell 1
          have x2 : w4.cell? ⟨G, 2, none⟩ = some (.int .i64 n) := hx.cell 2
          dsimp only
          go_wp2_with fail
          generalize w1.heap.size = G1 at hxA ⊢
          generalize w2.heap.size = G2 at hxB ⊢
          have K : Hid (∀ W' : World, Below w4.heap.size w4 W' → W'.cell? ⟨G, 0, none⟩ = some (.slice A l.length c) ∧ W'.cell? ⟨G, 1, none⟩ = some (.int .i64 h) ∧ W'.cell? ⟨G, 2, none⟩ = some (.int .i64 n) ∧ W'.cell? ⟨G1, 0, none⟩ = some (.slice A3 r1.length c3) ∧ W'.cell? ⟨G1, 1, none⟩ = some (.int .i64 r2) ∧ W'.cell? ⟨G1, 2, none⟩ = some (.int .i64 r3) ∧ W'.cell? ⟨G2, 0, none⟩ = some (.slice A5 r1.length c5) ∧ W'.cell? ⟨G2, 1, none⟩ = some (.int .i64 r2) ∧ W'.cell? ⟨G2, 2, none⟩ = some (.int .i64 r3)) := fun W hW =>
            ⟨(hx.below hW).cell 0, (hx.below hW).cell 1, (hx.below hW).cell 2, (hxA.below hW).cell 0, (hxA.below hW).cell 1, (hxA.below hW).cell 2, (hxB.below hW).cell 0, (hxB.below hW).cell 1, (hxB.below hW).cell 2⟩
          obtain ⟨-, -, -, x3, x4, x5, x6, x7, x8⟩ := K.out w4 (Below.refl _ _)
          have q5 : Hid (∀ W, Below w4.heap.size w4 W → _) := fun W hW => k5.out W (bgo hb1 hW)
          have q6 : Hid (∀ W, Below w4.heap.size w4 W → _) := fun W hW => k6.out W (bgo hb1 hW)
          have q7 : Hid (∀ W, Below w4.heap.size w4 W → _) := fun W hW => rsigsame_any _ _ r1 r2 r3 W ((s1.below hW).more hW.size) ((s3.below hW).more hW.size)
          have q8 : Hid (∀ W, Below w4.heap.size w4 W → _) := fun W hW => rsame_any _ _ _ _ r4 r4 W (s2.below hW) (s4.below hW)
          generalize validI l h n = V at *
          replace hb1 := Lib.hid hb1
          clear k1 k2 k3 k4 k5 k6 s1 s2 s3 s4 hx hxA hxB
          clear hb0 hb2 hb3 hb4 wf wf2
          go_region_held3 (fun W' : World => W'.cell? ⟨G, 0, none⟩ = some (.slice A l.length c) ∧ W'.cell? ⟨G, 1, none⟩ = some (.int .i64 h) ∧ W'.cell? ⟨G, 2, none⟩ = some (.int .i64 n) ∧ W'.cell? ⟨G1, 0, none⟩ = some (.slice A3 r1.length c3) ∧ W'.cell? ⟨G1, 1, none⟩ = some (.int .i64 r2) ∧ W'.cell? ⟨G1, 2, none⟩ = some (.int .i64 r3) ∧ W'.cell? ⟨G2, 0, none⟩ = some (.slice A5 r1.length c5) ∧ W'.cell? ⟨G2, 1, none⟩ = some (.int .i64 r2) ∧ W'.cell? ⟨G2, 2, none⟩ = some (.int .i64 r3))
            (first | exact K.out _ (by (repeat (first | exact Below.refl _ _ | (refine bgo ?_ (balloc _ _)) | (refine bgo ?_ (bdrew _)) | (refine bgo ?_ (by assumption))))) | (go_keep; done))
            (first
              | (go_at_call 17; refine (sknown_any _).mono ?_; rintro e w5 ⟨rfl, hb5⟩)
              | (go_at_call 24; refine (q5.out _ (by (repeat (first | exact Below.refl _ _ | (refine bgo ?_ (balloc _ _)) | (refine bgo ?_ (bdrew _)) | (refine bgo ?_ (by assumption)))))).mono ?_; rintro e w6 ⟨rfl, hb6⟩)
              | (go_at_call 25; refine (q6.out _ (by (repeat (first | exact Below.refl _ _ | (refine bgo ?_ (balloc _ _)) | (refine bgo ?_ (bdrew _)) | (refine bgo ?_ (by assumption)))))).mono ?_; rintro e w7 ⟨rfl, hb7⟩)
              | (go_at_call 26; refine (q7.out _ (by (repeat (first | exact Below.refl _ _ | (refine bgo ?_ (balloc _ _)) | (refine bgo ?_ (bdrew _)) | (refine bgo ?_ (by assumption)))))).mono ?_; rintro e w8 ⟨rfl, hb8⟩)
              | (go_at_call 15; refine (q8.out _ (by (repeat (first | exact Below.refl _ _ | (refine bgo ?_ (balloc _ _)) | (refine bgo ?_ (bdrew _)) | (refine bgo ?_ (by assumption)))))).mono ?_; rintro e w9 ⟨rfl, rfl⟩))
          all_goals
            go_wp2_with fail
            go_ret
            exact ⟨rfl, bgo hb1.out (by (repeat (first | exact Below.refl _ _ | (refine bgo ?_ (balloc _ _)) | (refine bgo ?_ (bdrew _)) | (refine bgo ?_ (by assumption)))))⟩
    · have i1 : ¬ ((60 : Int) < (l.length : Int)) := by omega
      have i2 : (100 : Int) < (m.length : Int) := by omega
      · clear m1 m2
        go_enter Try.func5, Try.ntmps5
        go_wp2_with fail
        have hb0 := balloc w (.cells #[.slice A l.length c, .int .i64 h, .int .i64 n] 38)
        refine (sknown_any _).mono ?_
        rintro e w1 ⟨rfl, hb1⟩
        dsimp only
        go_wp2_with fail
        go_ret
        exact ⟨rfl, bgo hb0 hb1⟩
  · have i1 : (60 : Int) < (l.length : Int) := by omega
    go_enter Try.func5, Try.ntmps5
    go_wp2_with fail
    have hb0 := balloc w (.cells #[.slice A l.length c, .int .i64 h, .int .i64 n] 38)
    refine (sknown_any _).mono ?_
    rintro e w1 ⟨rfl, hb1⟩
    dsimp only
    go_wp2_with fail
    go_ret
    exact ⟨rfl, bgo hb0 hb1⟩
end Go.Proofs.Ytjlobdediebpcaa

/- Contracts that a law leans on, and its walk. Conditions: those of each theorem. -/
import Derived.Test.YtemopnhhmilhbaaGreatGFChk
import Derived.Test.YtemopnhhmilhbaaGreatGRCVer
namespace Go.Proofs.YtemopnhhmilhbaaGreat
open Go Go.RowKit
set_option linter.unusedVariables false
set_option linter.unusedSimpArgs false
attribute [local go_sem ↓] Go.wp_at_zero Go.wp_at_succ
set_option maxRecDepth 100000 in
set_option maxHeartbeats 2000000 in
theorem rfcheck_any (B : Nat) (u : Value) (ls : List LinkG) (f s : Int) (w : World) (hu : SeesR w B u 3 ls.length (linkS ls)) (hB : B ≤ w.heap.size) (hn : ls.length ≤ 1000) (hl : ∀ t ∈ ls, t.1.length ≤ 1048576 ∧ t.2.1.length ≤ 1048576 ∧ t.2.2.length ≤ 1048576) :
 Calls Tryz.prog 33 #[.agg #[u, .int .i64 f, .int .i64 s]] w (FChkP ls f s w) := by
 obtain ⟨A, c, rfl, hc0, -⟩ := hu.mk_
 have hal := balloc w (.cells #[.slice A ls.length c, .int .i64 f, .int .i64 s] 47)
 have x1 := Box.new w 47 [.slice A ls.length c, .int .i64 f, .int .i64 s]
 change Box (w.alloc (.cells #[.slice A ls.length c, .int .i64 f, .int .i64 s] 47)) _ _ _ at x1
 replace hu := Lib.hid ((hu.more hB).below hal)
 replace hal := Lib.hid hal
 have hg1 : Hid (w.heap.size < (w.alloc (.cells #[.slice A ls.length c, .int .i64 f, .int .i64 s] 47)).heap.size) := x1.lt
 go_enter Tryz.func33, Tryz.ntmps33
 go_upto_region 1 with (fail)
 generalize w.alloc (.cells #[.slice A ls.length c, .int .i64 f, .int .i64 s] 47) = W0 at *
 have hver := Lib.hid (rcverify_any w.heap.size _ ls W0 hu.out (Nat.le_of_lt hg1.out) (by omega) (fun t ht => (hl t ht).2.2))
 have hcv : Hid (cverC ls = 0 → (cverV ls).length = ls.length) := cverV_len
 unfold CVerP at hver
 replace hl := Lib.hid hl
 have hD : Hid (fchkC ls f s = if cverC ls = 0 then (if namesB ls f s then 0 else 24) else cverC ls) := rfl
 have hNB : Hid (namesB ls f s = (decide (0 ≤ f ∧ f < s ∧ s = (ls.length : Int) - 1) && agB ls (cverV ls) f.toNat s.toNat)) := rfl
 obtain ⟨k0, k1, k2, -, -, -⟩ := box3_cells x1
 go_wp2_with fail
 refine hver.out.mono ?_
 rintro e w1 ⟨v1, rfl, p1, hb1⟩
 generalize hC : cverC ls = C at *
 replace hC := Lib.hid hC
 have xb := x1.below hb1
 have hb := Lib.hid (bgo hal.out hb1)
 clear k0 k1 k2 hver
 obtain ⟨k0, k1, k2, -, -, -⟩ := box3_cells xb
 dsimp only
 by_cases h0 : C = 0
 rotate_left
 · have hE : (C == 0) = false := by simp [h0]
   obtain ⟨A1, c1, rfl, hc1, -⟩ := p1.mk_
   have hD2 : Hid (fchkC ls f s = C) := by show _ = _; rw [hD.out, if_neg h0]
   replace h0 := Lib.hid h0
   go_wp2_with fail
   go_returns
   exact fchk_bad hD2.out h0.out hb.out
 subst h0
 have hVl := hcv.out rfl
 generalize hV : cverV ls = V at *
 rw [hVl] at p1
 have hsp := Lib.hid (spanC2_sees p1)
 obtain ⟨A1, c1, rfl, hc1, -⟩ := p1.mk_
 have hln : (ls.length : Int) - 1 < 1000 := by omega
 replace hD : Hid (fchkC ls f s = if namesB ls f s then 0 else 24) := by show _ = _; rw [hD.out, if_pos rfl]
 replace hVl := Lib.hid hVl
 replace hV := Lib.hid hV
 have hbad : Hid (∀ W, Below w.heap.size w W → namesB ls f s = false → FChkP ls f s w (.returned (.tuple #[.slice none 0 0, .int .i64 24])) W) := fun W hW hq => fchk_bad (by rw [hD.out, hq]; rfl) (by decide) hW
 clear p1 hcv
 by_cases h1 : f < 0
 · have hq : Hid (namesB ls f s = false) := by show _ = _; rw [hNB.out, decide_eq_false (by omega)]; rfl
   have hd : decide (f < 0) = true := by simpa using h1
   go_wp2_with fail
   go_returns
   exact hbad.out _ hb.out hq.out
 have hd : decide (f < 0) = false := by simpa using h1
 by_cases h2 : s ≤ f
 · have hq : Hid (namesB ls f s = false) := by show _ = _; rw [hNB.out, decide_eq_false (by omega)]; rfl
   have hd2 : decide (s ≤ f) = true := by simpa using h2
   go_wp2_with fail
   go_returns
   exact hbad.out _ hb.out hq.out
 have hd2 : decide (s ≤ f) = false := by simpa using h2
 by_cases h3 : s = (ls.length : Int) - 1
 rotate_left
 · have hq : Hid (namesB ls f s = false) := by show _ = _; rw [hNB.out, decide_eq_false (by omega)]; rfl
   have hd3 : (s != (ls.length : Int) - 1) = true := by simpa using h3
   go_wp2_with fail
   go_returns
   exact hbad.out _ hb.out hq.out
 obtain ⟨i, rfl⟩ : ∃ i : Nat, f = (i : Int) := ⟨f.toNat, by omega⟩
 obtain ⟨j, rfl⟩ : ∃ j : Nat, s = (j : Int) := ⟨s.toNat, by omega⟩
 have hij : i < j := by omega
 have hjn : j < ls.length := by omega
 have hq : Hid (namesB ls (i : Int) (j : Int) = agB ls V i j) := by show _ = _; rw [hNB.out, decide_eq_true (by omega), Bool.true_and, Int.toNat_natCast, Int.toNat_natCast]
 have hjm : (ls.length : Int) - 1 = (j : Int) := by omega
 have i1 : (i : Int) < (ls.length : Int) := by omega
 have i2 : (j : Int) < (ls.length : Int) := by omega
 have hu1 := Lib.hid (hu.out.below (Below.mono hb1 (Nat.le_of_lt hg1.out)))
 have hgw : w.heap.size < w1.heap.size := Nat.lt_of_lt_of_le hg1.out hb1.size
 have hga := Lib.hid (against_any _ _ _ _ ls V w1 i j hu1.out hsp.out hVl.out (by omega) hjn)
 obtain ⟨cv, b2, o2, hc2, hA2, hcell, hsl, hcs2⟩ := row_cells hu1.out rfl
 obtain ⟨rfl, hbA⟩ := hA2 (by omega)
 obtain ⟨b1, o1, rfl, hb1l, hcs⟩ := hsp.out.at_ (by omega)
 obtain ⟨P0, n0, r0, y0⟩ := hsl (i * 3) (by omega)
 have p0 := hcell (i * 3) (by omega)
 have s0 := (hcs2 i (by omega)).1
 rw [y0] at p0 s0
 have hln0 : Hid ((linkT ls i).1.length ≤ 1048576) := (hl.out _ (link_mem (by omega))).1
 have hn0 : n0 = (linkT ls i).1.length := by obtain ⟨_, _, e, -, -⟩ := s0.mk_; injection e
 subst hn0
 have hcl := Lib.hid (fun W (hW : Below w1.heap.size w1 W) => rjoin_lit (vs := [.slice P0 (linkT ls i).1.length r0]) [(linkT ls i).1] W W W.heap.size rfl (Below.refl _ _) ⟨seesB_of s0 (Nat.le_of_lt hgw) hW, trivial⟩ (by simp) (by have := hln0.out; simp; omega))
 have hfl : [(linkT ls i).1].flatten = (linkT ls i).1 := by simp
 rw [hfl] at hcl
 replace hcl := Lib.hid hcl.out
 have hgood : Hid (∀ W v, Below w.heap.size w W → namesB ls (i : Int) (j : Int) = true → SeesB W W.heap.size v (linkT ls i).1 → FChkP ls (i : Int) (j : Int) w (.returned (.tuple #[v, .int .i64 0])) W) := fun W v hW hq hs => fchk_ok (by rw [hD.out, hq]; rfl) hs hW
 replace hgw := Lib.hid hgw
 clear hu hsl hcell hcs2 hcs y0 s0 hA2 h1 h2 h3 hu1 hD hsp x1 xb hl hc2 hc1 hfl
 cases hE : agB ls V i j with
 | false =>
   rw [hE] at hga
   have hq2 : Hid (namesB ls (i : Int) (j : Int) = false) := by show _ = _; rw [hq.out, hE]
   replace hE := Lib.hid hE
   go_wp2_with fail
   refine hga.out.mono ?_
   rintro e w2 ⟨rfl, m, rfl⟩
   dsimp only
   go_wp2_with fail
   go_returns
   exact hbad.out _ (below_drewN hb.out m) hq2.out
 | true =>
   rw [hE] at hga
   have hq2 : Hid (namesB ls (i : Int) (j : Int) = true) := by show _ = _; rw [hq.out, hE]
   replace hE := Lib.hid hE
   go_wp2_with fail
   refine hga.out.mono ?_
   rintro e w2 ⟨rfl, m, rfl⟩
   dsimp only
   clear hga hbad
   go_wp2_with fail
   refine (hcl.out _ (below_drewN (Below.refl _ _) m)).mono ?_
   rintro e w3 ⟨v3, rfl, o3, hb3⟩
   have hb4 := Lib.hid (bgo (below_drewN hb.out m) hb3)
   clear hcl k0 k1 k2 p0
   dsimp only
   go_wp2_with fail
   go_returns
   exact hgood.out _ _ hb4.out hq2.out o3.sees
end Go.Proofs.YtemopnhhmilhbaaGreat

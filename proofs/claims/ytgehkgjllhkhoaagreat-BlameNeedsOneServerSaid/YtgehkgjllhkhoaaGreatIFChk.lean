/- Contracts that a law leans on, and its walk. Conditions: those of each theorem. -/
import Derived.Test.YtgehkgjllhkhoaaGreatIAgainst
namespace Go.Proofs.YtgehkgjllhkhoaaGreat
open Go Go.RowKit
set_option linter.unusedVariables false
set_option linter.unusedSimpArgs false
attribute [local go_sem ↓] Go.wp_at_zero Go.wp_at_succ
def namesB (ls : List LinkG) (f s : Int) : Bool := decide (0 ≤ f ∧ f < s ∧ s = (ls.length : Int) - 1) && agB ls (cverV ls) f.toNat s.toNat
def fchkC (ls : List LinkG) (f s : Int) : Int := if cverC ls = 0 then (if namesB ls f s then 0 else 24) else cverC ls
def fchkB (ls : List LinkG) (f s : Int) : Bs := if fchkC ls f s = 0 then (linkT ls f.toNat).1 else []
def FChkP (ls : List LinkG) (f s : Int) (w : World) (e : Ending) (w' : World) : Prop :=
 ∃ v, e = .returned (.tuple #[v, .int .i64 (fchkC ls f s)]) ∧ SeesB w' w'.heap.size v (fchkB ls f s) ∧ Below w.heap.size w w'
theorem fchk_bad {ls : List LinkG} {f s c : Int} (h : fchkC ls f s = c) (hc : c ≠ 0) {w w' : World} (hb : Below w.heap.size w w') : FChkP ls f s w (.returned (.tuple #[.slice none 0 0, .int .i64 c])) w' := by
 refine ⟨_, by rw [h], ?_, hb⟩
 rw [fchkB, if_neg (by rw [h]; exact hc)]
 exact SeesB.nil _ _
theorem fchk_ok {ls : List LinkG} {f s : Int} (h : fchkC ls f s = 0) {w w' : World} {v : Value} (hs : SeesB w' w'.heap.size v (linkT ls f.toNat).1) (hb : Below w.heap.size w w') : FChkP ls f s w (.returned (.tuple #[v, .int .i64 0])) w' := by
 refine ⟨v, by rw [h], ?_, hb⟩
 rw [fchkB, if_pos h]
 exact hs
set_option maxRecDepth 100000 in
set_option maxHeartbeats 2000000 in
theorem fcheck_any (B : Nat) (u : Value) (ls : List LinkG) (f s : Int) (w : World) (hu : SeesR w B u 3 ls.length (linkS ls)) (hB : B ≤ w.heap.size) (hn : ls.length ≤ 1000) (hl : ∀ t ∈ ls, t.1.length ≤ 1048576 ∧ t.2.1.length ≤ 1048576 ∧ t.2.2.length ≤ 1048576) :
 Calls Tryz.prog 15 #[.agg #[u, .int .i64 f, .int .i64 s]] w (FChkP ls f s w) := by
 obtain ⟨A, c, rfl, hc0, -⟩ := hu.mk_
 have hal := balloc w (.cells #[.slice A ls.length c, .int .i64 f, .int .i64 s] 30)
 have x1 := Box.new w 30 [.slice A ls.length c, .int .i64 f, .int .i64 s]
 change Box (w.alloc (.cells #[.slice A ls.length c, .int .i64 f, .int .i64 s] 30)) _ _ _ at x1
 replace hu := Lib.hid ((hu.more hB).below hal)
 replace hal := Lib.hid hal
 have hg1 : Hid (w.heap.size < (w.alloc (.cells #[.slice A ls.length c, .int .i64 f, .int .i64 s] 30)).heap.size) := x1.lt
 go_enter Tryz.func15, Tryz.ntmps15
 go_upto_region 1 with (fail)
 generalize w.alloc (.cells #[.slice A ls.length c, .int .i64 f, .int .i64 s] 30) = W0 at *
 have hver := Lib.hid (cverify_any w.heap.size _ ls W0 hu.out (Nat.le_of_lt hg1.out) (by omega) (fun t ht => (hl t ht).2.2))
 have hcv : Hid (cverC ls = 0 → (cverV ls).length = ls.length) := cverV_len
 unfold CVerP at hver
 replace hl := Lib.hid hl
 have hD : Hid (fchkC ls f s = if cverC ls = 0 then (if namesB ls f s then 0 else 24) else cverC ls) := rfl
 have hNB : Hid (namesB ls f s = (decide (0 ≤ f ∧ f < s ∧ s = (ls.length : Int) - 1) && agB ls (cverV ls) f.toNat s.toNat)) := rfl
 obtain ⟨k0, k1, k2, -, -, -⟩ := box3_cells x1
 go_wp2_with fail
 refine hver.out.mono ?_
 rintro e w1 ⟨v1, rfl, p1, hb1⟩
 generalize hC : cverC ls = C at *
 replace hC := Lib.hid hC
 have xb := x1.below hb1
 have hb := Lib.hid (bgo hal.out hb1)
 clear k0 k1 k2 hver
 obtain ⟨k0, k1, k2, -, -, -⟩ := box3_cells xb
 dsimp only
 by_cases h0 : C = 0
 rotate_left
 · have hE : (C == 0) = false := by simp [h0]
   obtain ⟨A1, c1, rfl, hc1, -⟩ := p1.mk_
   have hD2 : Hid (fchkC ls f s = C) := by show _ = _; rw [hD.out, if_neg h0]
   replace h0 := Lib.hid h0
   go_wp2_with fail
   go_returns
   exact fchk_bad hD2.out h0.out hb.out
 subst h0
 have hVl := hcv.out rfl
 generalize hV : cverV ls = V at *
 rw [hVl] at p1
 have hsp := Lib.hid (spanC2_sees p1)
 obtain ⟨A1, c1, rfl, hc1, -⟩ := p1.mk_
 have hln : (ls.length : Int) - 1 < 1000 := by omega
 replace hD : Hid (fchkC ls f s = if namesB ls f s then 0 else 24) := by show _ = _; rw [hD.out, if_pos rfl]
 replace hVl := Lib.hid hVl
 replace hV := Lib.hid hV
 have hbad : Hid (∀ W, Below w.heap.size w W → namesB ls f s = false → FChkP ls f s w (.returned (.tuple #[.slice none 0 0, .int .i64 24])) W) := fun W hW hq => fchk_bad (by rw [hD.out, hq]; rfl) (by decide) hW
 clear p1 hcv
 by_cases h1 : f < 0
 · have hq : Hid (namesB ls f s = false) := by show _ = _; rw [hNB.out, decide_eq_false (by omega)]; rfl
   have hd : decide (f < 0) = true := by simpa using h1
   go_wp2_with fail
   go_returns
   exact hbad.out _ hb.out hq.out
 have hd : decide (f < 0) = false := by simpa using h1
 by_cases h2 : s ≤ f
 · have hq : Hid (namesB ls f s = false) := by show _ = _; rw [hNB.out, decide_eq_false (by omega)]; rfl
   have hd2 : decide (s ≤ f) = true := by simpa using h2
   go_wp2_with fail
   go_returns
   exact hbad.out _ hb.out hq.out
 have hd2 : decide (s ≤ f) = false := by simpa using h2
 by_cases h3 : s = (ls.length : Int) - 1
 rotate_left
 · have hq : Hid (namesB ls f s = false) := by show _ = _; rw [hNB.out, decide_eq_false (by omega)]; rfl
   have hd3 : (s != (ls.length : Int) - 1) = true := by simpa using h3
   go_wp2_with fail
   go_returns
   exact hbad.out _ hb.out hq.out
 obtain ⟨i, rfl⟩ : ∃ i : Nat, f = (i : Int) := ⟨f.toNat, by omega⟩
 obtain ⟨j, rfl⟩ : ∃ j : Nat, s = (j : Int) := ⟨s.toNat, by omega⟩
 have hij : i < j := by omega
 have hjn : j < ls.length := by omega
 have hq : Hid (namesB ls (i : Int) (j : Int) = agB ls V i j) := by show _ = _; rw [hNB.out, decide_eq_true (by omega), Bool.true_and, Int.toNat_natCast, Int.toNat_natCast]
 have hjm : (ls.length : Int) - 1 = (j : Int) := by omega
 have i1 : (i : Int) < (ls.length : Int) := by omega
 have i2 : (j : Int) < (ls.length : Int) := by omega
 have hu1 := Lib.hid (hu.out.below (Below.mono hb1 (Nat.le_of_lt hg1.out)))
 have hgw : w.heap.size < w1.heap.size := Nat.lt_of_lt_of_le hg1.out hb1.size
 obtain ⟨cv, b2, o2, hc2, hA2, hcell, hsl, hcs2⟩ := row_cells hu1.out rfl
 obtain ⟨rfl, hbA⟩ := hA2 (by omega)
 obtain ⟨b1, o1, rfl, hb1l, hcs⟩ := hsp.out.at_ (by omega)
 have hgt := spanC2_get V
 rw [hVl.out] at hgt
 obtain ⟨P0, n0, r0, y0⟩ := hsl (i * 3) (by omega)
 obtain ⟨P1, n1, r1, y1⟩ := hsl (j * 3) (by omega)
 have p0 := hcell (i * 3) (by omega)
 have p1 := hcell (j * 3) (by omega)
 have s0 := (hcs2 i (by omega)).1
 have s1 := (hcs2 j (by omega)).1
 rw [y0] at p0 s0
 rw [y1] at p1 s1
 have z0 := hcs _ _ (hgt i (by omega)).1
 have z1 := hcs _ _ (hgt j (by omega)).2
 rw [← Nat.add_assoc] at z1
 have hag : agB ls V i j = (((linkT ls i).1 == (linkT ls j).1) && decide ((V.getD j (0, 0)).2 < (V.getD i (0, 0)).1)) := rfl
 rw [hag] at hq
 generalize (V.getD j (0, 0)).2 = hi2 at *
 generalize (V.getD i (0, 0)).1 = lo2 at *
 have hcl := Lib.hid (fun W (hW : Below w1.heap.size w1 W) => bclone_any w.heap.size _ _ W (s0.below (Below.mono hW (Nat.le_of_lt hgw))) (Nat.le_trans (Nat.le_of_lt hgw) hW.size) (Nat.le_trans (hl.out _ (link_mem (by omega))).1 (by omega)))
 have heq := Lib.hid (fun k => equal_any _ _ _ _ _ _ (w1.drewN k) (s0.below (below_drewN (Below.refl _ _) k)) (s1.below (below_drewN (Below.refl _ _) k)))
 generalize ((linkT ls i).1 == (linkT ls j).1) = E at *
 have hgood : Hid (∀ W v, Below w.heap.size w W → namesB ls (i : Int) (j : Int) = true → SeesB W W.heap.size v (linkT ls i).1 → FChkP ls (i : Int) (j : Int) w (.returned (.tuple #[v, .int .i64 0])) W) := fun W v hW hq hs => fchk_ok (by rw [hD.out, hq]; rfl) hs hW
 replace hgw := Lib.hid hgw
 clear hu hsl hcell hcs2 hcs hgt y0 y1 s0 s1 hag hA2 h1 h2 h3 hu1 hD hsp x1 xb hl hc2 hc1
 cases E with
 | false =>
   go_upto_region 6 with (fail)
   go_quiet ((go_at_call 64; exact Calls.quiet_of_same (heq.out _)))
   go_wp2_with fail
   go_returns
   exact hbad.out _ (below_drewN hb.out nq) hq.out
 | true =>
   by_cases hlh : lo2 ≤ hi2
   · go_upto_region 6 with (fail)
     go_quiet ((go_at_call 64; exact Calls.quiet_of_same (heq.out _)))
     have hq2 : Hid (namesB ls (i : Int) (j : Int) = false) := by show _ = _; rw [hq.out]; simp; exact hlh
     go_wp2_with fail
     go_returns
     exact hbad.out _ (below_drewN hb.out nq) hq2.out
   · have hd4 : decide (lo2 ≤ hi2) = false := by simpa using hlh
     have hq2 : Hid (namesB ls (i : Int) (j : Int) = true) := by show _ = _; rw [hq.out]; simp; omega
     go_upto_region 6 with (fail)
     go_quiet ((go_at_call 64; exact Calls.quiet_of_same (heq.out _)))
     go_wp2_with fail
     refine (hcl.out _ (below_drewN (Below.refl _ _) nq)).mono ?_
     rintro e w2 ⟨v2, rfl, o2, hb2⟩
     have hb3 := Lib.hid (bgo (below_drewN hb.out nq) hb2)
     clear hcl heq k0 k1 k2 p0 p1 z0 z1
     dsimp only
     go_wp2_with fail
     go_returns
     exact hgood.out _ _ hb3.out hq2.out o2.sees
end Go.Proofs.YtgehkgjllhkhoaaGreat

/- What a law leans on beyond the base: contracts, plain functions, walks. Conditions: those of each theorem. -/
import Derived.Test.YtgehkgjllhkhoaaGreatJTape
set_option linter.unusedVariables false
set_option linter.unusedSimpArgs false
namespace Go.Proofs.YtgehkgjllhkhoaaGreat
open Go Go.RowKit
set_option linter.unusedVariables false
set_option linter.unusedSimpArgs false
attribute [local go_sem ↓] Go.wp_at_zero Go.wp_at_succ
def agB (ls : List LinkG) (V : List (Int × Int)) (i j : Nat) : Bool := ((linkT ls i).1 == (linkT ls j).1) && decide ((V.getD j (0, 0)).2 < (V.getD i (0, 0)).1)
def FindR (ls : List LinkG) (V : List (Int × Int)) : Option (Nat × Nat) → Prop
 | none => ∀ j, j < ls.length → ∀ i, i < j → agB ls V i j = false
 | some (i, j) => i < j ∧ j < ls.length ∧ agB ls V i j = true ∧ (∀ j', j' < j → ∀ i', i' < j' → agB ls V i' j' = false) ∧ ∀ i', i' < i → agB ls V i' j = false
theorem noB_pf (A : Option Addr) (n c : Nat) (a b : Int) : NoByte [Value.slice A n c, .int .i64 a, .int .i64 b] := by
 intro x hx n e
 simp only [List.mem_cons, List.not_mem_nil, or_false] at hx
 rcases hx with rfl | rfl | rfl <;> cases e
theorem OwnR.pokes {w : World} {base k size g : Nat} {T T' : TypeId} {v : Value} {ss : List Spec} (h : OwnR w base T v size k ss) (hG : g < base) (hbx : Box w g T' [.slice none 0 0, .int .i64 0, .int .i64 0]) (A : Option Addr) (n c : Nat) (a b : Int) : OwnR (((w.setCell ⟨g, 0, none⟩ (.slice A n c)).setCell ⟨g, 1, none⟩ (.int .i64 a)).setCell ⟨g, 2, none⟩ (.int .i64 b)) base T v size k ss := by
 have h1 := h.poke (j := 0) (v' := .slice A n c) hG hbx (noB_pf none 0 0 0 0)
 have b1 := hbx.set 0 (.slice A n c)
 simp only [List.set_cons_zero] at b1
 have h2 := h1.poke (j := 1) (v' := .int .i64 a) hG b1 (noB_pf _ _ _ _ _)
 have b2 := b1.set 1 (.int .i64 a)
 simp only [List.set_cons_zero, List.set_cons_succ] at b2
 exact h2.poke hG b2 (noB_pf _ _ _ _ _)
def FindP (ls : List LinkG) (w : World) (e : Ending) (w' : World) : Prop :=
 (cverC ls ≠ 0 ∧ e = .returned (.tuple #[.agg #[.slice none 0 0, .int .i64 0, .int .i64 0], .bool false, .int .i64 (cverC ls)]) ∧ Below w.heap.size w w') ∨
 (cverC ls = 0 ∧ FindR ls (cverV ls) none ∧ e = .returned (.tuple #[.agg #[.slice none 0 0, .int .i64 0, .int .i64 0], .bool false, .int .i64 0]) ∧ Below w.heap.size w w') ∨
 (cverC ls = 0 ∧ ∃ (i j : Nat) (v : Value), FindR ls (cverV ls) (some (i, j)) ∧ e = .returned (.tuple #[.agg #[v, .int .i64 (i : Int), .int .i64 (j : Int)], .bool true, .int .i64 0]) ∧ SeesR w' w'.heap.size v 3 (ls.take (j + 1)).length (linkS (ls.take (j + 1))) ∧ Below w.heap.size w w')
theorem cverV_len {ls : List LinkG} (h : cverC ls = 0) : (cverV ls).length = ls.length := by unfold cverV; rw [if_pos h, cverK_len]
theorem span_szB (w : World) : (sizeOf 23).run Tryz.prog w = .ok 2 w := by kernel_rfl
theorem cut_zero (b o c : Nat) {size : Nat} (h : 0 < c) : cutA (some ⟨b, o, none⟩) c 0 size = some ⟨b, o, none⟩ := by
 unfold cutA
 rw [if_neg (by omega)]
 simp [Addr.add]
set_option maxRecDepth 100000 in
set_option maxHeartbeats 1000000 in
theorem bfind_any (B : Nat) (u : Value) (ls : List LinkG) (w : World) (hu : SeesR w B u 3 ls.length (linkS ls)) (hB : B ≤ w.heap.size) (hn : ls.length ≤ 1000) (hl : ∀ t ∈ ls, t.1.length ≤ 1048576 ∧ t.2.1.length ≤ 1048576 ∧ t.2.2.length ≤ 1048576) :
 Calls Tryz.prog 14 #[u] w (FindP ls w) := by
 obtain ⟨A, c, rfl, hc0, -⟩ := hu.mk_
 have hal := balloc w (.cells #[.slice none 0 0, .int .i64 0, .int .i64 0] 30)
 have x2 := Box.new w 30 [.slice none 0 0, .int .i64 0, .int .i64 0]
 change Box (w.alloc (.cells #[.slice none 0 0, .int .i64 0, .int .i64 0] 30)) _ _ _ at x2
 replace hu := Lib.hid ((hu.more hB).below hal)
 replace hal := Lib.hid hal
 have hg2 : Hid (w.heap.size < (w.alloc (.cells #[.slice none 0 0, .int .i64 0, .int .i64 0] 30)).heap.size) := x2.lt
 go_enter Tryz.func14, Tryz.ntmps14
 go_upto_region 1 with (fail)
 generalize w.alloc (.cells #[.slice none 0 0, .int .i64 0, .int .i64 0] 30) = W0 at *
 have hver := Lib.hid (cverify_any w.heap.size _ ls W0 hu.out (Nat.le_of_lt hg2.out) (by omega) (fun t ht => (hl t ht).2.2))
 have hcv : Hid (cverC ls = 0 → (cverV ls).length = ls.length) := cverV_len
 have hFP : Hid (FindP ls w = FindP ls w) := rfl
 unfold CVerP at hver
 replace hl := Lib.hid hl
 go_wp2_with fail
 refine hver.out.mono ?_
 rintro e w1 ⟨v1, rfl, p1, hb1⟩
 unfold FindP
 generalize hC : cverC ls = C at *
 replace hC := Lib.hid hC
 have xb := x2.below hb1
 have hb := Lib.hid (bgo hal.out hb1)
 by_cases h0 : C = 0
 rotate_left
 · obtain ⟨A1, c1, rfl, -, -⟩ := p1.mk_
   have k0 := xb.cell 0
   have k1 := xb.cell 1
   have k2 := xb.cell 2
   simp only [List.getElem?_cons_zero, List.getElem?_cons_succ] at k0 k1 k2
   have f0 := xb.frozen 0
   have f1 := xb.frozen 1
   have f2 := xb.frozen 2
   have hne : Hid (C ≠ 0) := h0
   clear hver p1 hb1
   dsimp only
   go_wp2_with fail
   have hb3 := ((hb.out.setCell (p := ⟨w.heap.size, 0, none⟩) (Nat.le_refl _) (.slice none 0 0)).setCell (p := ⟨w.heap.size, 1, none⟩) (Nat.le_refl _) (.int .i64 0)).setCell (p := ⟨w.heap.size, 2, none⟩) (Nat.le_refl _) (.int .i64 0)
   have x3 := box_lset3 xb (.slice none 0 0) (.int .i64 0) (.int .i64 0)
   generalize ((w1.setCell ⟨w.heap.size, 0, none⟩ (.slice none 0 0)).setCell ⟨w.heap.size, 1, none⟩ (.int .i64 0)).setCell ⟨w.heap.size, 2, none⟩ (.int .i64 0) = W7 at *
   obtain ⟨z0, z1, z2, -, -, -⟩ := box3_cells x3
   refine bodyPost_ret (v := .tuple #[.agg #[.slice none 0 0, .int .i64 0, .int .i64 0], .bool false, .int .i64 C]) (by simp [results, Tryz.results14, go_sem, z0, z1, z2]) rfl ?_
   exact .inl ⟨by rw [hC.out]; exact hne.out, by rw [hC.out], hb3⟩
 subst h0
 have hVl := hcv.out rfl
 generalize hV : cverV ls = V at *
 rw [hVl] at p1
 have hsp := spanC2_sees p1
 obtain ⟨A1, c1, rfl, hc1, -⟩ := p1.mk_
 have hgt := spanC2_get V
 rw [hVl] at hgt
 have hu1 := Lib.hid (hu.out.below (Below.mono hb1 (Nat.le_of_lt hg2.out)))
 have hgw : w.heap.size < w1.heap.size := Nat.lt_of_lt_of_le hg2.out hb1.size
 obtain ⟨cv, b2, o2, hc2, hA2, hcell, hsl, hcs2⟩ := row_cells hu1.out rfl
 replace hA2 := Lib.hid hA2
 replace hcell := Lib.hid hcell
 replace hsl := Lib.hid hsl
 replace hcs2 := Lib.hid hcs2
 replace hV := Lib.hid hV
 replace hVl := Lib.hid hVl
 replace hsp := Lib.hid hsp
 replace hgt := Lib.hid hgt
 replace xb := Lib.hid xb
 clear hver hcv hu x2 hal hb1 p1
 dsimp only
 go_wp2_with fail
 go_loopw [22] (fun t wr => ∃ j : Nat, j ≤ ls.length ∧ t = .int .i64 (j : Int) ∧ Hid (∀ j', j' < j → ∀ i', i' < j' → agB ls V i' j' = false) ∧ Hid (Below w1.heap.size w1 wr)) (fun t _ => ls.length - (intOf t).toNat)
 case atStart => exact ⟨0, by omega, rfl, (fun j' h => absurd h (Nat.not_lt_zero _)), Below.refl _ _⟩
 case round =>
  obtain ⟨j, hj, rfl, hag, hbr⟩ := hrel
  by_cases hlt : j < ls.length
  · have i0 : (j : Int) < (ls.length : Int) := by omega
    have j0 : (0 : Int) ≤ (j : Int) := by omega
    obtain ⟨b1, o1, rfl, hb1l, hcs⟩ := hsp.out.at_ (by omega)
    obtain ⟨q0, q1⟩ := hgt.out j hlt
    have y0 := (hbr.out.cell (p := ⟨b1, o1 + j * 2, none⟩) hb1l).trans (hcs _ _ q0)
    have y1 := (hbr.out.cell (p := ⟨b1, o1 + (j * 2 + 1), none⟩) hb1l).trans (hcs _ _ q1)
    rw [← Nat.add_assoc] at y1
    have hrc := run_cut_to (P := Tryz.prog) 28 Tryz.underlying28 2 span_szB (some ⟨b1, o1, none⟩) ls.length c1 .i64 (j : Int) (by omega) (by omega)
    rw [Int.toNat_natCast, Nat.sub_zero, Nat.sub_zero, cut_zero _ _ _ (by omega)] at hrc
    obtain ⟨lo, hlo⟩ : ∃ z, (V.getD j (0, 0)).1 = z := ⟨_, rfl⟩
    obtain ⟨hi, hhi⟩ : ∃ z, (V.getD j (0, 0)).2 = z := ⟨_, rfl⟩
    rw [hlo] at y0
    rw [hhi] at y1
    replace hlo := Lib.hid hlo
    replace hhi := Lib.hid hhi
    replace hcs := Lib.hid hcs
    clear q0 q1
    go_wp2_with fail
    have hal8 := balloc wr (.cells #[.int .i64 lo, .int .i64 hi] 23)
    have x8 := Box.new wr 23 [.int .i64 lo, .int .i64 hi]
    change Box (wr.alloc (.cells #[.int .i64 lo, .int .i64 hi] 23)) _ _ _ at x8
    have hb8 := Lib.hid (bgo hbr.out hal8)
    replace x8 := Lib.hid x8
    have hw8 : Hid (wr.heap.size < (wr.alloc (.cells #[.int .i64 lo, .int .i64 hi] 23)).heap.size) := x8.out.lt
    have hg8 : Hid (w1.heap.size ≤ wr.heap.size) := hbr.out.size
    clear y0 y1 hal8 hrc
    generalize wr.alloc (.cells #[.int .i64 lo, .int .i64 hi] 23) = W8 at *
    generalize wr.heap.size = g8 at *
    go_loopw [31] (fun t wi => ∃ i : Nat, i ≤ j ∧ t = .int .i64 (i : Int) ∧ Hid (∀ i', i' < i → agB ls V i' j = false) ∧ Hid (Below W8.heap.size W8 wi)) (fun t _ => j - (intOf t).toNat)
    case atStart => exact ⟨0, by omega, rfl, (fun i' h => absurd h (Nat.not_lt_zero _)), Below.refl _ _⟩
    case round =>
     obtain ⟨i, hij, rfl, hai, hbi⟩ := hrel
     by_cases hlt2 : i < j
     · have i1 : (i : Int) < (j : Int) := by omega
       have i2 : (i : Int) < (ls.length : Int) := by omega
       have j1 : (0 : Int) ≤ (i : Int) := by omega
       obtain ⟨rfl, hbA⟩ := hA2.out (by omega)
       obtain ⟨P0, n0, r0, y0⟩ := hsl.out (i * 3) (by omega)
       obtain ⟨P1, n1, r1, y1⟩ := hsl.out (j * 3) (by omega)
       have hb1i := bgo hb8.out hbi.out
       have p0 := (hb1i.cell (p := ⟨b2, o2 + i * 3, none⟩) (show b2 < w1.heap.size by omega)).trans (hcell.out (i * 3) (by omega))
       have p1 := (hb1i.cell (p := ⟨b2, o2 + j * 3, none⟩) (show b2 < w1.heap.size by omega)).trans (hcell.out (j * 3) (by omega))
       have s0 := (hcs2.out i (by omega)).1
       have s1 := (hcs2.out j (by omega)).1
       rw [y0] at p0 s0
       rw [y1] at p1 s1
       obtain ⟨q0, q1⟩ := hgt.out i (by omega)
       have z0 := (hb1i.cell (p := ⟨b1, o1 + i * 2, none⟩) hb1l).trans (hcs.out _ _ q0)
       have z1 := (hb1i.cell (p := ⟨b1, o1 + (i * 2 + 1), none⟩) hb1l).trans (hcs.out _ _ q1)
       rw [← Nat.add_assoc] at z1
       obtain ⟨lo2, hlo2⟩ : ∃ z, (V.getD i (0, 0)).1 = z := ⟨_, rfl⟩
       obtain ⟨hi2, hhi2⟩ : ∃ z, (V.getD i (0, 0)).2 = z := ⟨_, rfl⟩
       rw [hlo2] at z0
       rw [hhi2] at z1
       have hag2 : agB ls V i j = (((linkT ls i).1 == (linkT ls j).1) && decide (hi < lo2)) := by unfold agB; rw [hhi.out, hlo2]
       obtain ⟨v0, v1, -, -⟩ := box2_cells (x8.out.below hbi.out)
       replace hag2 := Lib.hid hag2
       replace hlo2 := Lib.hid hlo2
       replace hhi2 := Lib.hid hhi2
       replace s0 := Lib.hid s0
       replace s1 := Lib.hid s1
       clear q0 q1 y0 y1
       go_upto_region 10 with (fail)
       have hal10 := balloc wr (.cells #[.int .i64 lo2, .int .i64 hi2] 23)
       obtain ⟨w10, w11, -, -⟩ := box2_cells (Box.new wr 23 [.int .i64 lo2, .int .i64 hi2])
       change (wr.alloc (.cells #[.int .i64 lo2, .int .i64 hi2] 23)).cell? _ = _ at w10 w11
       have hb10 := Lib.hid (bgo hbi.out hal10)
       have hb1w := Lib.hid (bgo hb1i hal10)
       have hw8w : g8 < wr.heap.size := Nat.lt_of_lt_of_le hw8.out hbi.out.size
       have hww : w1.heap.size ≤ wr.heap.size := hb1i.size
       replace p0 := (hal10.cell (p := ⟨b2, o2 + i * 3, none⟩) (show b2 < wr.heap.size by omega)).trans p0
       replace p1 := (hal10.cell (p := ⟨b2, o2 + j * 3, none⟩) (show b2 < wr.heap.size by omega)).trans p1
       replace v0 := (hal10.cell (p := ⟨g8, 0, none⟩) hw8w).trans v0
       replace v1 := (hal10.cell (p := ⟨g8, 1, none⟩) hw8w).trans v1
       replace hww := Lib.hid hww
       replace hw8w := Lib.hid hw8w
       replace hb1i := Lib.hid hb1i
       have t0 := Lib.hid (fun W (hW : Below w1.heap.size w1 W) => s0.out.below (Below.mono hW (Nat.le_of_lt hgw)))
       have t1 := Lib.hid (fun W (hW : Below w1.heap.size w1 W) => s1.out.below (Below.mono hW (Nat.le_of_lt hgw)))
       generalize wr.alloc (.cells #[.int .i64 lo2, .int .i64 hi2] 23) = W10 at *
       generalize wr.heap.size = g10 at *
       have heq := Lib.hid (fun k => equal_any _ _ _ _ _ _ (W10.drewN k) (t0.out _ (below_drewN hb1w.out k)) (t1.out _ (below_drewN hb1w.out k)))
       generalize ((linkT ls i).1 == (linkT ls j).1) = E at *
       clear z0 z1 hal10
       cases E with
       | false =>
         go_quiet ((go_at_call 64; exact Calls.quiet_of_same (heq.out _)))
         go_wp2_with fail
         go_roundw
         case rel =>
          refine ⟨i + 1, by omega, by go_num, ?_, below_drewN hb10.out nq⟩
          intro i' h'
          rcases Nat.lt_or_ge i' i with h | h
          · exact hai.out i' h
          · obtain rfl : i' = i := by omega
            rw [hag2.out]; rfl
         case measure => simp [intOf]; omega
       | true =>
         by_cases hlh : hi < lo2
         · go_quiet ((go_at_call 64; exact Calls.quiet_of_same (heq.out _)))
           have hbq := Lib.hid (below_drewN hb1w.out nq)
           have hag3 : Hid (agB ls V i j = true) := by show _ = _; rw [hag2.out]; simpa using hlh
           clear heq p0 p1 v0 v1 w10 w11 t0 t1 s0 s1
           generalize W10.drewN nq = W11 at *
           have jm : ((j : Int) + 1).toNat = j + 1 := by omega
           have hrc := run_cut_to (P := Tryz.prog) 26 Tryz.underlying26 3 link_size (some ⟨b2, o2, none⟩) ls.length c .i64 ((j : Int) + 1) (by omega) (by omega)
           rw [jm, Nat.sub_zero, Nat.sub_zero, cut_zero _ _ _ (by omega)] at hrc
           have hlen : (ls.take (j + 1)).length = j + 1 := by rw [List.length_take]; omega
           have sx := links_cut (a := 0) (b := j + 1) (hu1.out.below (Below.mono hbq.out (Nat.le_of_lt hgw))) rfl (by omega) (by omega)
           rw [Nat.sub_zero, Nat.sub_zero, cut_zero _ _ _ (by omega), List.drop_zero] at sx
           have hcp := Lib.hid (ccopy_any w.heap.size _ (ls.take (j + 1)) W11 (by rw [hlen]; exact sx) (Nat.le_trans (Nat.le_of_lt hgw) hbq.out.size) (by omega) (fun t ht => hl.out t (List.mem_of_mem_take ht)))
           unfold CopyP at hcp
           rw [hlen] at hcp
           clear sx jm
           replace hlen := Lib.hid hlen
           go_wp2_with fail
           refine hcp.out.mono ?_
           rintro e w12 ⟨v, rfl, o12, hb12⟩
           obtain ⟨A12, c12, rfl, -, -⟩ := o12.own.sees.mk_
           have hbw := Lib.hid (bgo (bgo hb.out hbq.out) hb12)
           have xe := xb.out.below (bgo hbq.out hb12)
           have k0 := xe.cell 0
           have k1 := xe.cell 1
           have k2 := xe.cell 2
           simp only [List.getElem?_cons_zero, List.getElem?_cons_succ] at k0 k1 k2
           have f0 := xe.frozen 0
           have f1 := xe.frozen 1
           have f2 := xe.frozen 2
           have hlo11 : Hid (w.heap.size < W11.heap.size) := Nat.lt_of_lt_of_le hgw hbq.out.size
           clear hrc hcp
           dsimp only
           go_wp2_with fail
           have hb3 := ((hbw.out.setCell (p := ⟨w.heap.size, 0, none⟩) (Nat.le_refl _) (.slice A12 (j + 1) c12)).setCell (p := ⟨w.heap.size, 1, none⟩) (Nat.le_refl _) (.int .i64 (i : Int))).setCell (p := ⟨w.heap.size, 2, none⟩) (Nat.le_refl _) (.int .i64 (j : Int))
           have x3 := box_lset3 xe (.slice A12 (j + 1) c12) (.int .i64 (i : Int)) (.int .i64 (j : Int))
           have o13 := o12.own.pokes hlo11.out xe A12 (j + 1) c12 (i : Int) (j : Int)
           clear k0 k1 k2 f0 f1 f2 xe
           generalize ((w12.setCell ⟨w.heap.size, 0, none⟩ (.slice A12 (j + 1) c12)).setCell ⟨w.heap.size, 1, none⟩ (.int .i64 (i : Int))).setCell ⟨w.heap.size, 2, none⟩ (.int .i64 (j : Int)) = W7 at *
           obtain ⟨z0, z1, z2, -, -, -⟩ := box3_cells x3
           refine bodyPost_ret (v := .tuple #[.agg #[.slice A12 (j + 1) c12, .int .i64 (i : Int), .int .i64 (j : Int)], .bool true, .int .i64 0]) (by simp [results, Tryz.results14, go_sem, z0, z1, z2]) rfl ?_
           have hF : FindR ls V (some (i, j)) := ⟨hlt2, hlt, hag3.out, fun j' hj' i' hi' => hag.out j' hj' i' hi', fun i' hi' => hai.out i' hi'⟩
           rw [← hV.out] at hF
           refine .inr (.inr ⟨hC.out, i, j, .slice A12 (j + 1) c12, hF, rfl, ?_, hb3⟩)
           rw [hlen.out]
           exact o13.sees
         · have hd : decide (hi < lo2) = false := by simpa using hlh
           go_quiet ((go_at_call 64; exact Calls.quiet_of_same (heq.out _)))
           go_wp2_with fail
           go_roundw
           case rel =>
            refine ⟨i + 1, by omega, by go_num, ?_, below_drewN hb10.out nq⟩
            intro i' h'
            rcases Nat.lt_or_ge i' i with h | h
            · exact hai.out i' h
            · obtain rfl : i' = i := by omega
              rw [hag2.out, hd]; rfl
           case measure => simp [intOf]; omega
     · obtain rfl : i = j := by omega
       go_wp2_with fail
       go_roundw
       case rel =>
        refine ⟨i + 1, by omega, by go_num, ?_, bgo hb8.out hbi.out⟩
        intro j' h' i' hi'
        rcases Nat.lt_or_ge j' i with h | h
        · exact hag.out j' h i' hi'
        · obtain rfl : j' = i := by omega
          exact hai.out i' hi'
       case measure => simp [intOf]; omega
  · obtain rfl : j = ls.length := by omega
    have xe := xb.out.below hbr.out
    have k0 := xe.cell 0
    have k1 := xe.cell 1
    have k2 := xe.cell 2
    simp only [List.getElem?_cons_zero, List.getElem?_cons_succ] at k0 k1 k2
    have f0 := xe.frozen 0
    have f1 := xe.frozen 1
    have f2 := xe.frozen 2
    go_wp2_with fail
    have hb3 := (((bgo hb.out hbr.out).setCell (p := ⟨w.heap.size, 0, none⟩) (Nat.le_refl _) (.slice none 0 0)).setCell (p := ⟨w.heap.size, 1, none⟩) (Nat.le_refl _) (.int .i64 0)).setCell (p := ⟨w.heap.size, 2, none⟩) (Nat.le_refl _) (.int .i64 0)
    have x3 := box_lset3 xe (.slice none 0 0) (.int .i64 0) (.int .i64 0)
    clear k0 k1 k2 f0 f1 f2 xe
    generalize ((wr.setCell ⟨w.heap.size, 0, none⟩ (.slice none 0 0)).setCell ⟨w.heap.size, 1, none⟩ (.int .i64 0)).setCell ⟨w.heap.size, 2, none⟩ (.int .i64 0) = W7 at *
    obtain ⟨z0, z1, z2, -, -, -⟩ := box3_cells x3
    refine bodyPost_ret (v := .tuple #[.agg #[.slice none 0 0, .int .i64 0, .int .i64 0], .bool false, .int .i64 0]) (by simp [results, Tryz.results14, go_sem, z0, z1, z2]) rfl ?_
    have hF : FindR ls V none := fun j' hj' i' hi' => hag.out j' hj' i' hi'
    rw [← hV.out] at hF
    exact .inr (.inl ⟨hC.out, hF, rfl, hb3⟩)
theorem link_mem {ls : List LinkG} {k : Nat} (h : k < ls.length) : linkT ls k ∈ ls := by
 rw [linkT, List.getD_eq_getElem?_getD, List.getElem?_eq_getElem h]
 exact List.getElem_mem h
def namesB (ls : List LinkG) (f s : Int) : Bool := decide (0 ≤ f ∧ f < s ∧ s = (ls.length : Int) - 1) && agB ls (cverV ls) f.toNat s.toNat
def fchkC (ls : List LinkG) (f s : Int) : Int := if cverC ls = 0 then (if namesB ls f s then 0 else 24) else cverC ls
def fchkB (ls : List LinkG) (f s : Int) : Bs := if fchkC ls f s = 0 then (linkT ls f.toNat).1 else []
def FChkP (ls : List LinkG) (f s : Int) (w : World) (e : Ending) (w' : World) : Prop :=
 ∃ v, e = .returned (.tuple #[v, .int .i64 (fchkC ls f s)]) ∧ SeesB w' w'.heap.size v (fchkB ls f s) ∧ Below w.heap.size w w'
theorem fchk_bad {ls : List LinkG} {f s c : Int} (h : fchkC ls f s = c) (hc : c ≠ 0) {w w' : World} (hb : Below w.heap.size w w') : FChkP ls f s w (.returned (.tuple #[.slice none 0 0, .int .i64 c])) w' := by
 refine ⟨_, by rw [h], ?_, hb⟩
 rw [fchkB, if_neg (by rw [h]; exact hc)]
 exact SeesB.nil _ _
theorem fchk_ok {ls : List LinkG} {f s : Int} (h : fchkC ls f s = 0) {w w' : World} {v : Value} (hs : SeesB w' w'.heap.size v (linkT ls f.toNat).1) (hb : Below w.heap.size w w') : FChkP ls f s w (.returned (.tuple #[v, .int .i64 0])) w' := by
 refine ⟨v, by rw [h], ?_, hb⟩
 rw [fchkB, if_pos h]
 exact hs
set_option maxRecDepth 100000 in
set_option maxHeartbeats 2000000 in
theorem fcheck_any (B : Nat) (u : Value) (ls : List LinkG) (f s : Int) (w : World) (hu : SeesR w B u 3 ls.length (linkS ls)) (hB : B ≤ w.heap.size) (hn : ls.length ≤ 1000) (hl : ∀ t ∈ ls, t.1.length ≤ 1048576 ∧ t.2.1.length ≤ 1048576 ∧ t.2.2.length ≤ 1048576) :
 Calls Tryz.prog 15 #[.agg #[u, .int .i64 f, .int .i64 s]] w (FChkP ls f s w) := by
 obtain ⟨A, c, rfl, hc0, -⟩ := hu.mk_
 have hal := balloc w (.cells #[.slice A ls.length c, .int .i64 f, .int .i64 s] 30)
 have x1 := Box.new w 30 [.slice A ls.length c, .int .i64 f, .int .i64 s]
 change Box (w.alloc (.cells #[.slice A ls.length c, .int .i64 f, .int .i64 s] 30)) _ _ _ at x1
 replace hu := Lib.hid ((hu.more hB).below hal)
 replace hal := Lib.hid hal
 have hg1 : Hid (w.heap.size < (w.alloc (.cells #[.slice A ls.length c, .int .i64 f, .int .i64 s] 30)).heap.size) := x1.lt
 go_enter Tryz.func15, Tryz.ntmps15
 go_upto_region 1 with (fail)
 generalize w.alloc (.cells #[.slice A ls.length c, .int .i64 f, .int .i64 s] 30) = W0 at *
 have hver := Lib.hid (cverify_any w.heap.size _ ls W0 hu.out (Nat.le_of_lt hg1.out) (by omega) (fun t ht => (hl t ht).2.2))
 have hcv : Hid (cverC ls = 0 → (cverV ls).length = ls.length) := cverV_len
 unfold CVerP at hver
 replace hl := Lib.hid hl
 have hD : Hid (fchkC ls f s = if cverC ls = 0 then (if namesB ls f s then 0 else 24) else cverC ls) := rfl
 have hNB : Hid (namesB ls f s = (decide (0 ≤ f ∧ f < s ∧ s = (ls.length : Int) - 1) && agB ls (cverV ls) f.toNat s.toNat)) := rfl
 obtain ⟨k0, k1, k2, -, -, -⟩ := box3_cells x1
 go_wp2_with fail
 refine hver.out.mono ?_
 rintro e w1 ⟨v1, rfl, p1, hb1⟩
 generalize hC : cverC ls = C at *
 replace hC := Lib.hid hC
 have xb := x1.below hb1
 have hb := Lib.hid (bgo hal.out hb1)
 clear k0 k1 k2 hver
 obtain ⟨k0, k1, k2, -, -, -⟩ := box3_cells xb
 dsimp only
 by_cases h0 : C = 0
 rotate_left
 · have hE : (C == 0) = false := by simp [h0]
   obtain ⟨A1, c1, rfl, hc1, -⟩ := p1.mk_
   have hD2 : Hid (fchkC ls f s = C) := by show _ = _; rw [hD.out, if_neg h0]
   replace h0 := Lib.hid h0
   go_wp2_with fail
   go_returns
   exact fchk_bad hD2.out h0.out hb.out
 subst h0
 have hVl := hcv.out rfl
 generalize hV : cverV ls = V at *
 rw [hVl] at p1
 have hsp := Lib.hid (spanC2_sees p1)
 obtain ⟨A1, c1, rfl, hc1, -⟩ := p1.mk_
 have hln : (ls.length : Int) - 1 < 1000 := by omega
 replace hD : Hid (fchkC ls f s = if namesB ls f s then 0 else 24) := by show _ = _; rw [hD.out, if_pos rfl]
 replace hVl := Lib.hid hVl
 replace hV := Lib.hid hV
 have hbad : Hid (∀ W, Below w.heap.size w W → namesB ls f s = false → FChkP ls f s w (.returned (.tuple #[.slice none 0 0, .int .i64 24])) W) := fun W hW hq => fchk_bad (by rw [hD.out, hq]; rfl) (by decide) hW
 clear p1 hcv
 by_cases h1 : f < 0
 · have hq : Hid (namesB ls f s = false) := by show _ = _; rw [hNB.out, decide_eq_false (by omega)]; rfl
   have hd : decide (f < 0) = true := by simpa using h1
   go_wp2_with fail
   go_returns
   exact hbad.out _ hb.out hq.out
 have hd : decide (f < 0) = false := by simpa using h1
 by_cases h2 : s ≤ f
 · have hq : Hid (namesB ls f s = false) := by show _ = _; rw [hNB.out, decide_eq_false (by omega)]; rfl
   have hd2 : decide (s ≤ f) = true := by simpa using h2
   go_wp2_with fail
   go_returns
   exact hbad.out _ hb.out hq.out
 have hd2 : decide (s ≤ f) = false := by simpa using h2
 by_cases h3 : s = (ls.length : Int) - 1
 rotate_left
 · have hq : Hid (namesB ls f s = false) := by show _ = _; rw [hNB.out, decide_eq_false (by omega)]; rfl
   have hd3 : (s != (ls.length : Int) - 1) = true := by simpa using h3
   go_wp2_with fail
   go_returns
   exact hbad.out _ hb.out hq.out
 obtain ⟨i, rfl⟩ : ∃ i : Nat, f = (i : Int) := ⟨f.toNat, by omega⟩
 obtain ⟨j, rfl⟩ : ∃ j : Nat, s = (j : Int) := ⟨s.toNat, by omega⟩
 have hij : i < j := by omega
 have hjn : j < ls.length := by omega
 have hq : Hid (namesB ls (i : Int) (j : Int) = agB ls V i j) := by show _ = _; rw [hNB.out, decide_eq_true (by omega), Bool.true_and, Int.toNat_natCast, Int.toNat_natCast]
 have hjm : (ls.length : Int) - 1 = (j : Int) := by omega
 have i1 : (i : Int) < (ls.length : Int) := by omega
 have i2 : (j : Int) < (ls.length : Int) := by omega
 have hu1 := Lib.hid (hu.out.below (Below.mono hb1 (Nat.le_of_lt hg1.out)))
 have hgw : w.heap.size < w1.heap.size := Nat.lt_of_lt_of_le hg1.out hb1.size
 obtain ⟨cv, b2, o2, hc2, hA2, hcell, hsl, hcs2⟩ := row_cells hu1.out rfl
 obtain ⟨rfl, hbA⟩ := hA2 (by omega)
 obtain ⟨b1, o1, rfl, hb1l, hcs⟩ := hsp.out.at_ (by omega)
 have hgt := spanC2_get V
 rw [hVl.out] at hgt
 obtain ⟨P0, n0, r0, y0⟩ := hsl (i * 3) (by omega)
 obtain ⟨P1, n1, r1, y1⟩ := hsl (j * 3) (by omega)
 have p0 := hcell (i * 3) (by omega)
 have p1 := hcell (j * 3) (by omega)
 have s0 := (hcs2 i (by omega)).1
 have s1 := (hcs2 j (by omega)).1
 rw [y0] at p0 s0
 rw [y1] at p1 s1
 have z0 := hcs _ _ (hgt i (by omega)).1
 have z1 := hcs _ _ (hgt j (by omega)).2
 rw [← Nat.add_assoc] at z1
 have hag : agB ls V i j = (((linkT ls i).1 == (linkT ls j).1) && decide ((V.getD j (0, 0)).2 < (V.getD i (0, 0)).1)) := rfl
 rw [hag] at hq
 generalize (V.getD j (0, 0)).2 = hi2 at *
 generalize (V.getD i (0, 0)).1 = lo2 at *
 have hcl := Lib.hid (fun W (hW : Below w1.heap.size w1 W) => bclone_any w.heap.size _ _ W (s0.below (Below.mono hW (Nat.le_of_lt hgw))) (Nat.le_trans (Nat.le_of_lt hgw) hW.size) (Nat.le_trans (hl.out _ (link_mem (by omega))).1 (by omega)))
 have heq := Lib.hid (fun k => equal_any _ _ _ _ _ _ (w1.drewN k) (s0.below (below_drewN (Below.refl _ _) k)) (s1.below (below_drewN (Below.refl _ _) k)))
 generalize ((linkT ls i).1 == (linkT ls j).1) = E at *
 have hgood : Hid (∀ W v, Below w.heap.size w W → namesB ls (i : Int) (j : Int) = true → SeesB W W.heap.size v (linkT ls i).1 → FChkP ls (i : Int) (j : Int) w (.returned (.tuple #[v, .int .i64 0])) W) := fun W v hW hq hs => fchk_ok (by rw [hD.out, hq]; rfl) hs hW
 replace hgw := Lib.hid hgw
 clear hu hsl hcell hcs2 hcs hgt y0 y1 s0 s1 hag hA2 h1 h2 h3 hu1 hD hsp x1 xb hl hc2 hc1
 cases E with
 | false =>
   go_upto_region 6 with (fail)
   go_quiet ((go_at_call 64; exact Calls.quiet_of_same (heq.out _)))
   go_wp2_with fail
   go_returns
   exact hbad.out _ (below_drewN hb.out nq) hq.out
 | true =>
   by_cases hlh : lo2 ≤ hi2
   · go_upto_region 6 with (fail)
     go_quiet ((go_at_call 64; exact Calls.quiet_of_same (heq.out _)))
     have hq2 : Hid (namesB ls (i : Int) (j : Int) = false) := by show _ = _; rw [hq.out]; simp; exact hlh
     go_wp2_with fail
     go_returns
     exact hbad.out _ (below_drewN hb.out nq) hq2.out
   · have hd4 : decide (lo2 ≤ hi2) = false := by simpa using hlh
     have hq2 : Hid (namesB ls (i : Int) (j : Int) = true) := by show _ = _; rw [hq.out]; simp; omega
     go_upto_region 6 with (fail)
     go_quiet ((go_at_call 64; exact Calls.quiet_of_same (heq.out _)))
     go_wp2_with fail
     refine (hcl.out _ (below_drewN (Below.refl _ _) nq)).mono ?_
     rintro e w2 ⟨v2, rfl, o2, hb2⟩
     have hb3 := Lib.hid (bgo (below_drewN hb.out nq) hb2)
     clear hcl heq k0 k1 k2 p0 p1 z0 z1
     dsimp only
     go_wp2_with fail
     go_returns
     exact hgood.out _ _ hb3.out hq2.out o2.sees
end Go.Proofs.YtgehkgjllhkhoaaGreat

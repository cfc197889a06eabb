/- The walk of the statement QuorumAgrees: it returns true. Conditions: the spans and numbers are seen. -/
import Derived.Test.YtiiaghmdajdbbaaQ2
import Derived.Test.YtiiaghmdajdbbaaQZ
import Derived.Test.YtiiaghmdajdbbaaQO
import Derived.Test.YtiiaghmdajdbbaaQW
namespace Go.Proofs.Ytiiaghmdajdbbaa
open Go Go.RowKit
set_option linter.unusedVariables false
set_option linter.unusedSimpArgs false
attribute [local go_sem ↓] Go.wp_at_zero Go.wp_at_succ
/-- A slice of spans out of a list of two. -/
def El (W0 : World) (G i : Nat) : Prop := ∃ A n c ls, W0.cell? ⟨G, i, none⟩ = some (.slice A n c) ∧ ls.length = n ∧ SeesS W0 W0.heap.size (.slice A n c) ls ∧ n ≤ 64
theorem two_i {P : Nat → Prop} (h0 : P 0) (h1 : P 1) : ∀ i, i < 2 → P i := fun i hi => by
  rcases Nat.lt_or_ge i 1 with h | h
  · obtain rfl : i = 0 := by omega
    exact h0
  · obtain rfl : i = 1 := by omega
    exact h1
set_option maxRecDepth 100000 in
set_option maxHeartbeats 8000000 in
theorem agrees_law (B0 : Nat) (v0 : Value) (raw : List Sp) (w : World) (s0 : SeesS w B0 v0 raw) (hB0 : B0 ≤ w.heap.size) (B1 : Nat) (v1 : Value) (l : List Int) (s1 : SeesT w B1 v1 l) (hB1 : B1 ≤ w.heap.size) (f : Int) (wf : (Lit.int .i64 f).wf = true) :
    Calls Try.prog 5 #[v0, v1, .int .i64 f] w fun e w' => e = .returned (.bool true) ∧ Below w.heap.size w w' := by
  have hs1 : SeesT w w.heap.size v1 l := Sees.more s1 hB1
  have hs0 : Hid (SeesS w w.heap.size v0 raw) := Sees.more s0 hB0
  have hkn := Lib.hid (fun W => known_any W)
  have hnew := Lib.hid (tnew_any v1 l w hs1)
  have hwi := Lib.hid (fun W => kwithin_any f 8 (by omega) (by omega) W)
  obtain ⟨A0, c0, rfl, -, hc0⟩ := hs0.out.mk_
  obtain ⟨A1, c1, rfl, -, -⟩ := hs1.mk_
  unfold maxLen at hc0
  clear s0 s1 hs1
  by_cases hlen : raw.length ≤ 10
  · have j0 : ¬ (10 : Int) < (raw.length : Int) := by omega
    have r1 := Int.emod_nonneg f (show (8 : Int) ≠ 0 by omega)
    have r2 := Int.emod_lt_of_pos f (show (0 : Int) < 8 by omega)
    generalize f % 8 = f8 at *
    go_enter Try.func5, Try.ntmps5
    go_wp2_with fail
    refine hnew.out.mono ?_
    rintro e wa ⟨rfl, ht, hba, hgl⟩
    have hsp := Lib.hid (kspans_any _ _ l 0 12 20 wa ht (by omega) (by omega) (by omega))
    replace hba := Lib.hid hba
    clear ht hnew
    dsimp only
    go_wp2_with fail
    refine hsp.out.mono ?_
    rintro e wb ⟨v, ls, rfl, ho, hl12, hok, hgb⟩
    obtain ⟨Al, cl, rfl, -, -⟩ := (Sees.of_own ho).mk_
    have hsl : Hid (SeesS wb wb.heap.size (.slice Al ls.length cl) ls) := Sees.of_own ho
    have hbb : Hid (Below w.heap.size w wb) := hba.out.trans ⟨hgb.os, hgb.tape, hgb.output, hgb.size, fun k hk => hgb.block k (by omega) (fun e => by have := Option.some.inj e; omega)⟩
    clear ho hgb hsp hba hgl hok
    have xg := Box.new wb 24 [.slice A0 raw.length c0, .slice Al ls.length cl]
    change Box (wb.alloc (.cells #[.slice A0 raw.length c0, .slice Al ls.length cl] 24)) _ _ _ at xg
    have hal := balloc wb (.cells #[.slice A0 raw.length c0, .slice Al ls.length cl] 24)
    have hel : Hid (∀ i, i < 2 → El (wb.alloc (.cells #[.slice A0 raw.length c0, .slice Al ls.length cl] 24)) wb.heap.size i) := two_i
      ⟨_, _, _, raw, xg.cell 0, rfl, (SeesS.below hs0.out (bgo hbb.out hal)).more (Nat.le_trans hbb.out.size hal.size), by omega⟩
      ⟨_, _, _, ls, xg.cell 1, rfl, (SeesS.below hsl.out hal).more hal.size, by omega⟩
    replace hbb := Lib.hid (bgo hbb.out hal)
    have hG : Hid (wb.heap.size < (wb.alloc (.cells #[.slice A0 raw.length c0, .slice Al ls.length cl] 24)).heap.size) := xg.lt
    clear hal xg hsl hs0
    dsimp only
    go_upto_block 1 with (fail)
    generalize wb.alloc (.cells #[.slice A0 raw.length c0, .slice Al ls.length cl] 24) = W0 at *
    generalize wb.heap.size = G at *
    replace hwi := Lib.hid (fun W => hwi.out W)
    go_loopw [37] (fun i wr => ∃ k : Nat, k ≤ 2 ∧ i = .int .i64 k ∧ Hid (Below W0.heap.size W0 wr)) (fun i _ => 2 - (intOf i).toNat)
    case atStart => exact ⟨0, by omega, rfl, Below.refl _ _⟩
    case round =>
      obtain ⟨k, hk, rfl, hb⟩ := hrel
      by_cases hlt : k < 2
      · obtain ⟨Ax, n, cx, lx, hcell, hln, hss, hn⟩ := hel.out k hlt
        have y0 : wr.cell? ⟨G, k, none⟩ = some (.slice Ax n cx) := (hb.out.cell (p := ⟨G, k, none⟩) hG.out).trans hcell
        have i0 : (k : Int) < 2 := by omega
        have i1 : (0 : Int) ≤ (k : Int) := by omega
        replace hss := Lib.hid hss
        replace hln := Lib.hid hln
        clear hcell
        go_wp2_with fail
        refine (hwi.out wr).mono ?_
        rintro e w' ⟨rfl, hw⟩
        obtain rfl := hw
        have xk := Box.new w' 3 [.int .i64 f, .int .i64 (f8 - 1)]
        change Box (w'.alloc (.cells #[.int .i64 f, .int .i64 (f8 - 1)] 3)) _ _ _ at xk
        have hal := balloc w' (.cells #[.int .i64 f, .int .i64 (f8 - 1)] 3)
        have hks : Hid (∀ j, j < 2 → ∃ kv : Int, (w'.alloc (.cells #[.int .i64 f, .int .i64 (f8 - 1)] 3)).cell? ⟨w'.heap.size, j, none⟩ = some (.int .i64 kv)) := two_i ⟨f, xk.cell 0⟩ ⟨f8 - 1, xk.cell 1⟩
        have hG2 : Hid (w'.heap.size < (w'.alloc (.cells #[.int .i64 f, .int .i64 (f8 - 1)] 3)).heap.size) := xk.lt
        have hb1 := Lib.hid (bgo hb.out hal)
        clear hb y0 hal xk
        dsimp only
        go_wp2_with fail
        obtain ⟨W1, hW1⟩ : ∃ W1, w'.alloc (.cells #[.int .i64 f, .int .i64 (f8 - 1)] 3) = W1 := ⟨_, rfl⟩
        rw [hW1] at hks hG2 hb1 ⊢
        clear hW1
        generalize w'.heap.size = G2 at *
        have hS : Hid (∀ W, Below W1.heap.size W1 W → SeesS W W0.heap.size (.slice Ax n cx) lx) := fun W hW => SeesS.below hss.out (bgo hb1.out hW)
        go_loopw [47] (fun i wr => ∃ j : Nat, j ≤ 2 ∧ i = .int .i64 j ∧ Hid (Below W1.heap.size W1 wr)) (fun i _ => 2 - (intOf i).toNat)
        case atStart => exact ⟨0, by omega, rfl, Below.refl _ _⟩
        case round =>
          obtain ⟨j, hj, rfl, hb⟩ := hrel
          by_cases hlt2 : j < 2
          · obtain ⟨kv, hcell⟩ := hks.out j hlt2
            have y0 : wr.cell? ⟨G2, j, none⟩ = some (.int .i64 kv) := (hb.out.cell (p := ⟨G2, j, none⟩) hG2.out).trans hcell
            have i2 : (j : Int) < 2 := by omega
            have i3 : (0 : Int) ≤ (j : Int) := by omega
            clear hcell
            have hz : ∀ W, Below W1.heap.size W1 W → W0.heap.size ≤ W.heap.size := fun W hW => (bgo hb1.out hW).size
            have hnl : lx.length ≤ 64 := by rw [hln.out]; omega
            replace hz := Lib.hid hz
            replace hnl := Lib.hid hnl
            have hc := Lib.hid (qagree_any W0.heap.size _ lx kv wr (hS.out wr hb.out) (hz.out wr hb.out) hnl.out)
            go_wp2_with fail
            refine hc.out.mono ?_
            rintro e w11 ⟨o, ho, rfl, hbc⟩
            generalize hlo : (o.getD (0, 0)).1 = lo at *
            generalize hhi : (o.getD (0, 0)).2 = hi at *
            generalize hcA : agC lx kv o = cA at *
            replace ho := Lib.hid ho
            replace hlo := Lib.hid hlo
            replace hhi := Lib.hid hhi
            replace hcA := Lib.hid hcA
            have x11 := Box.new w11 28 [.int .i64 lo, .int .i64 hi]
            change Box (w11.alloc (.cells #[.int .i64 lo, .int .i64 hi] 28)) _ _ _ at x11
            have hal := balloc w11 (.cells #[.int .i64 lo, .int .i64 hi] 28)
            replace hb := Lib.hid (bgo hb.out (bgo hbc hal))
            clear hc hbc hal y0
            try dsimp only
            go_upto_region 10 with (fail)
            generalize w11.alloc (.cells #[.int .i64 lo, .int .i64 hi] 28) = W11 at *
            generalize w11.heap.size = g11 at *
            have hc := Lib.hid (rqagree_any W0.heap.size _ lx kv W11 (hS.out W11 hb.out) (hz.out W11 hb.out) hnl.out)
            go_wp2_with fail
            refine hc.out.mono ?_
            rintro e w13 ⟨o', ho', rfl, hbc⟩
            obtain rfl := AgO.uniq ho' ho.out
            rw [hlo.out, hhi.out, hcA.out]
            clear ho'
            have x13 := Box.new w13 28 [.int .i64 lo, .int .i64 hi]
            change Box (w13.alloc (.cells #[.int .i64 lo, .int .i64 hi] 28)) _ _ _ at x13
            have hal := balloc w13 (.cells #[.int .i64 lo, .int .i64 hi] 28)
            replace x11 := x11.below (bgo hbc hal)
            replace hb := Lib.hid (bgo hb.out (bgo hbc hal))
            clear hc hbc hal
            try dsimp only
            go_upto_region 11 with (fail)
            generalize w13.alloc (.cells #[.int .i64 lo, .int .i64 hi] 28) = W13 at *
            generalize w13.heap.size = g13 at *
            have hc := Lib.hid (outside_any W0.heap.size _ lx kv W13 (hS.out W13 hb.out) (hz.out W13 hb.out) hnl.out)
            go_wp2_with fail
            refine hc.out.mono ?_
            rintro e w15 ⟨o', v15, ho', rfl, hx15, hbc⟩
            obtain rfl := AgO.uniq ho' ho.out
            rw [hcA.out]
            obtain ⟨A15, c15, rfl, -, -⟩ := SeesI.mk_ hx15
            generalize hxs : outX lx o' = xs at *
            replace hx15 := Lib.hid hx15
            replace x11 := x11.below hbc
            replace x13 := x13.below hbc
            replace hb := Lib.hid (bgo hb.out hbc)
            clear hc hbc ho'
            have hc := Lib.hid (routside_any W0.heap.size _ lx kv w15 (hS.out w15 hb.out) (hz.out w15 hb.out) hnl.out)
            try dsimp only
            go_wp2_with fail
            refine hc.out.mono ?_
            rintro e w17 ⟨o'', v17, ho'', rfl, hx17, hbc⟩
            obtain rfl := AgO.uniq ho'' ho.out
            rw [hcA.out]
            rw [hxs] at hx17
            obtain ⟨A17, c17, rfl, -, -⟩ := SeesI.mk_ hx17
            replace hx17 := Lib.hid hx17
            replace hx15 := Lib.hid (Lit.below hx15.out hbc)
            replace hxs := Lib.hid hxs
            replace x11 := x11.below hbc
            replace x13 := x13.below hbc
            replace hb := Lib.hid (bgo hb.out hbc)
            clear hc hbc ho''
            have hc := Lib.hid (trim_any W0.heap.size _ lx kv w17 (hS.out w17 hb.out) (hz.out w17 hb.out) hnl.out)
            try dsimp only
            go_wp2_with fail
            refine hc.out.mono ?_
            rintro e w19 ⟨rfl, hbc⟩
            generalize hcT : trC lx kv = cT at *
            generalize htl : trLo lx kv = tl at *
            generalize hth : trHi lx kv = th at *
            replace hcT := Lib.hid hcT
            replace htl := Lib.hid htl
            replace hth := Lib.hid hth
            have x19 := Box.new w19 28 [.int .i64 tl, .int .i64 th]
            change Box (w19.alloc (.cells #[.int .i64 tl, .int .i64 th] 28)) _ _ _ at x19
            have hal := balloc w19 (.cells #[.int .i64 tl, .int .i64 th] 28)
            replace x11 := x11.below (bgo hbc hal)
            replace x13 := x13.below (bgo hbc hal)
            replace hx15 := Lib.hid (Lit.below hx15.out (bgo hbc hal))
            replace hx17 := Lib.hid (Lit.below hx17.out (bgo hbc hal))
            replace hb := Lib.hid (bgo hb.out (bgo hbc hal))
            clear hc hbc hal
            try dsimp only
            go_upto_region 14 with (fail)
            generalize w19.alloc (.cells #[.int .i64 tl, .int .i64 th] 28) = W19 at *
            generalize w19.heap.size = g19 at *
            have hc := Lib.hid (rtrim_any W0.heap.size _ lx kv W19 (hS.out W19 hb.out) (hz.out W19 hb.out) hnl.out)
            try dsimp only
            go_wp2_with fail
            refine hc.out.mono ?_
            rintro e w21 ⟨rfl, hbc⟩
            rw [htl.out, hth.out, hcT.out]
            have x21 := Box.new w21 28 [.int .i64 tl, .int .i64 th]
            change Box (w21.alloc (.cells #[.int .i64 tl, .int .i64 th] 28)) _ _ _ at x21
            have hal := balloc w21 (.cells #[.int .i64 tl, .int .i64 th] 28)
            replace x11 := x11.below (bgo hbc hal)
            replace x13 := x13.below (bgo hbc hal)
            replace hx15 := Lib.hid (Lit.below hx15.out (bgo hbc hal))
            replace hx17 := Lib.hid (Lit.below hx17.out (bgo hbc hal))
            replace x19 := x19.below (bgo hbc hal)
            replace hb := Lib.hid (bgo hb.out (bgo hbc hal))
            clear hc hbc hal
            try dsimp only
            go_upto_region 15 with (fail)
            generalize w21.alloc (.cells #[.int .i64 tl, .int .i64 th] 28) = W21 at *
            generalize w21.heap.size = g21 at *
            have hsm := Lib.hid (sameI_true W21.heap.size _ _ xs W21 (Lit.sees hx15.out) (Lit.sees hx17.out))
            obtain ⟨p0, p1⟩ := boxT2 x11
            obtain ⟨p2, p3⟩ := boxT2 x13
            obtain ⟨p4, p5⟩ := boxT2 x19
            obtain ⟨p6, p7⟩ := boxT2 x21
            go_wp2_with fail
            refine hsm.out.mono ?_
            rintro e w22 ⟨rfl, m, rfl⟩
            try dsimp only
            go_wp2_with fail
            have hbf : Hid (Below W1.heap.size W1 (W21.drewN m)) := bgo hb.out (below_drewN (Below.refl _ _) _)
            go_roundw
            case rel => exact ⟨j + 1, by omega, by go_num, hbf⟩
            case measure => simp [intOf]; omega
          · have i2 : ¬ (j : Int) < 2 := by omega
            have hz : Hid (W0.heap.size ≤ wr.heap.size) := (bgo hb1.out hb.out).size
            have hnl : Hid (lx.length ≤ 64) := by show _ ≤ _; rw [hln.out]; omega
            have hc := Lib.hid (need_any W0.heap.size _ lx wr (hS.out wr hb.out) hz.out hnl.out)
            go_wp2_with fail
            refine hc.out.mono ?_
            rintro e w23 ⟨nn, nc, rfl, hr, hbc⟩
            replace hb := Lib.hid (bgo hb.out hbc)
            have hz2 : Hid (W0.heap.size ≤ w23.heap.size) := (bgo hb1.out hb.out).size
            clear hc hbc
            have hc := Lib.hid (rneed_any W0.heap.size _ lx w23 (hS.out w23 hb.out) hz2.out hnl.out)
            try dsimp only
            go_wp2_with fail
            refine hc.out.mono ?_
            rintro e w25 ⟨n', c', rfl, hr', hbc⟩
            obtain ⟨rfl, rfl⟩ := NeedR.uniq hr hr'
            replace hb := Lib.hid (bgo hb1.out (bgo hb.out hbc))
            clear hc hbc hr hr'
            try dsimp only
            go_wp2_with fail
            go_roundw
            case rel => exact ⟨k + 1, by omega, by go_num, hb⟩
            case measure => simp [intOf]; omega
      · have i0 : ¬ (k : Int) < 2 := by omega
        go_wp2_with fail
        refine (hkn.out _).mono ?_
        rintro e w1 ⟨rfl, hbk⟩
        replace hbk := Lib.hid hbk
        dsimp only
        go_wp2_with fail
        go_returns
        exact ⟨rfl, bgo hbb.out (bgo hb.out hbk.out)⟩
  · have j0 : (10 : Int) < (raw.length : Int) := by omega
    clear hnew hwi
    go_enter Try.func5, Try.ntmps5
    go_wp2_with fail
    refine (hkn.out _).mono ?_
    rintro e w1 ⟨rfl, hb⟩
    replace hb := Lib.hid hb
    dsimp only
    go_wp2_with fail
    go_returns
    exact ⟨rfl, hb.out⟩
end Go.Proofs.Ytiiaghmdajdbbaa

/- The walk of the statement QuorumLeavesFewOutside: it returns true. Conditions: the numbers are seen. -/
import Derived.Test.YtiiaghmdajdbbaaQ2
import Derived.Test.YtiiaghmdajdbbaaQZ
namespace Go.Proofs.Ytiiaghmdajdbbaa
open Go Go.RowKit
set_option linter.unusedVariables false
set_option linter.unusedSimpArgs false
attribute [local go_sem ↓] Go.wp_at_zero Go.wp_at_succ
set_option maxRecDepth 100000 in
set_option maxHeartbeats 4000000 in
theorem few_law (B : Nat) (v : Value) (l : List Int) (w : World) (s : SeesT w B v l) (hB : B ≤ w.heap.size) (f : Int) (wf : (Lit.int .u8 f).wf = true) :
    Calls Try.prog 4 #[v, .int .u8 f] w fun e w' => e = .returned (.bool true) ∧ Below w.heap.size w w' := by
  have hs0 : SeesT w w.heap.size v l := Sees.more s hB
  have hfb := bounds_u8 wf
  obtain ⟨f0, f1⟩ := hfb
  have hkn := Lib.hid (fun W => known_any W)
  have hnew := Lib.hid (tnew_any v l w hs0)
  obtain ⟨A, c, rfl, -, -⟩ := hs0.mk_
  have r1 := Int.emod_nonneg f (show (6 : Int) ≠ 0 by omega)
  have r2 := Int.emod_lt_of_pos f (show (0 : Int) < 6 by omega)
  clear s hs0
  go_enter Try.func4, Try.ntmps4
  go_wp2_with fail
  refine hnew.out.mono ?_
  rintro e wa ⟨rfl, ht, hba, hgl⟩
  have hsp := Lib.hid (kspans_any _ _ l 0 12 20 wa ht (by omega) (by omega) (by omega))
  replace hba := Lib.hid hba
  clear ht hnew
  dsimp only
  go_wp2_with fail
  refine hsp.out.mono ?_
  rintro e w1 ⟨vs, ls, rfl, ho, hl12, hok, hgb⟩
  obtain ⟨Al, cl, rfl, -, -⟩ := (Sees.of_own ho).mk_
  have hsl : Hid (SeesS w1 w1.heap.size (.slice Al ls.length cl) ls) := Sees.of_own ho
  have hbb : Hid (Below w.heap.size w w1) := hba.out.trans ⟨hgb.os, hgb.tape, hgb.output, hgb.size, fun k hk => hgb.block k (by omega) (fun e => by have := Option.some.inj e; omega)⟩
  have hag := Lib.hid (fun k => qagree_any w1.heap.size _ ls k w1 hsl.out (Nat.le_refl _) (by omega))
  replace hok := Lib.hid hok
  clear ho hgb hsp hba hgl
  dsimp only
  go_upto_region 3 with (fail)
  generalize f % 6 = k at *
  have hag := Lib.hid (hag.out k)
  go_wp2_with fail
  refine hag.out.mono ?_
  rintro e w2 ⟨o, hao, rfl, hb2⟩
  generalize hlo : (o.getD (0, 0)).1 = a at *
  generalize hhi : (o.getD (0, 0)).2 = b at *
  generalize hce : agC ls k o = ce at *
  have x7 := Box.new w2 28 [.int .i64 a, .int .i64 b]
  change Box (w2.alloc (.cells #[.int .i64 a, .int .i64 b] 28)) _ _ _ at x7
  have hal := balloc w2 (.cells #[.int .i64 a, .int .i64 b] 28)
  have hb3 := Lib.hid (bgo hb2 hal)
  replace hao := Lib.hid hao
  replace hlo := Lib.hid hlo
  replace hhi := Lib.hid hhi
  replace hce := Lib.hid hce
  clear hag hb2 hal
  go_upto_region 4 with (fail)
  generalize w2.alloc (.cells #[.int .i64 a, .int .i64 b] 28) = W3 at *
  generalize w2.heap.size = g7 at *
  have hou := Lib.hid (outside_any w1.heap.size _ ls k W3 (SeesS.below hsl.out hb3.out) hb3.out.size (by omega))
  go_wp2_with fail
  refine hou.out.mono ?_
  rintro e w6 ⟨o', vx, ho', rfl, hx, hb6⟩
  obtain rfl := AgO.uniq ho' hao.out
  rw [hce.out]
  obtain ⟨Ax, cx, rfl, -, -⟩ := SeesI.mk_ hx
  replace x7 := Lib.hid (x7.below hb6)
  replace hb3 := Lib.hid (bgo hb3.out hb6)
  replace hx := Lib.hid hx
  clear hou hb6 ho'
  cases o' with
  | none =>
    have hcn : ce ≠ 0 := by rw [← hce.out]; exact hao.out.none_c
    have i0 : (ce == 0) = false := by simpa using hcn
    have i1 : (ce != 0) = true := by simpa using hcn
    have hxl : (outX ls none).length = 0 := rfl
    rw [hxl]
    clear hxl
    dsimp only
    go_wp2_with fail
    refine (hkn.out _).mono ?_
    rintro e w7 ⟨rfl, hb7⟩
    replace hb7 := Lib.hid hb7
    dsimp only
    go_wp2_with fail
    go_ret
    exact ⟨rfl, bgo hbb.out (bgo hb3.out hb7.out)⟩
  | some s =>
    obtain ⟨a', b'⟩ := s
    obtain rfl : a' = a := hlo.out
    obtain rfl : b' = b := hhi.out
    obtain rfl : ce = 0 := by rw [← hce.out]; exact hao.out.some_c
    have hqc : qchkC ls k = 0 := by
      have h1 := hao.out
      unfold AgO at h1
      by_cases hq : qchkC ls k = 0
      · exact hq
      · rw [if_neg hq] at h1; cases h1
    have hhu : IsHull ls (ls.length - k) (some (a', b')) := by have h1 := hao.out; unfold AgO at h1; rwa [if_pos hqc] at h1
    have hkk := qchk_ok hqc
    have hv := hull_vS hok.out (by omega) hhu
    have hfew := few_out hok.out hv hhu
    have hmem := Lib.hid (fun x (h : x ∈ outX ls (some (a', b'))) => outN_mem (l := ls) (a := a') (b := b') (n := ls.length) h)
    have hasc := Lib.hid (outN_asc ls a' b' ls.length)
    change Hid ((outX ls (some (a', b'))).Pairwise (· < ·)) at hasc
    generalize outX ls (some (a', b')) = xs at *
    replace hhu := Lib.hid hhu
    replace hv := Lib.hid hv
    replace hqc := Lib.hid hqc
    clear hkk
    have hxl : xs.length ≤ 12 := by omega
    dsimp only
    go_wp2_with fail
    go_loopw [11] (fun i wr => ∃ k : Nat, k ≤ xs.length ∧ i = .int .i64 k ∧ Hid (Below w6.heap.size w6 wr)) (fun i _ => xs.length - (intOf i).toNat)
    case atStart => exact ⟨0, by omega, rfl, Below.refl _ _⟩
    case round =>
      obtain ⟨i, hi, rfl, hb⟩ := hrel
      by_cases hlt : i < xs.length
      · obtain ⟨bx, ox, e9, hbx, hds⟩ := SeesI.at_ (Sees.below hx.out hb.out) (by omega)
        subst e9
        obtain ⟨x, hxi⟩ : ∃ x, xs[i]? = some x := ⟨_, List.getElem?_eq_getElem hlt⟩
        obtain ⟨kx, r, rfl, hkx, hr, hm⟩ := hmem.out x (List.mem_of_getElem? hxi)
        obtain ⟨bs, os, e9, hbs, hdr⟩ := SeesS.at_ (SeesS.below hsl.out (bgo hb3.out hb.out)) (by omega)
        subst e9
        obtain ⟨ra, rb⟩ := r
        have hK : Hid (∀ W, Below wr.heap.size wr W → W.cell? ⟨bx, ox + i, none⟩ = some (.int .i64 (kx : Int)) ∧ (W.cell? ⟨bs, os + kx * 2, none⟩ = some (.int .i64 ra) ∧ W.cell? ⟨bs, os + kx * 2 + 1, none⟩ = some (.int .i64 rb)) ∧ W.cell? ⟨g7, 0, none⟩ = some (.int .i64 a') ∧ W.cell? ⟨g7, 1, none⟩ = some (.int .i64 b')) := fun W hW => by
          obtain ⟨b1, o1, e1, -, h1⟩ := SeesI.at_ (Sees.below hx.out (bgo hb.out hW)) (by omega)
          cases e1
          obtain ⟨b2, o2, e2, -, h2⟩ := SeesS.at_ (SeesS.below hsl.out (bgo hb3.out (bgo hb.out hW))) (by omega)
          cases e2
          exact ⟨h1 i _ hxi, h2 kx _ hr, boxT2 (x7.out.below (bgo hb.out hW))⟩
        obtain ⟨z0, ⟨z1, z2⟩, z3, z4⟩ := hK.out wr (Below.refl _ _)
        have hme := Lib.hid (fun W => rmeet_any ra rb a' b' W)
        have j0 : (i : Int) < (xs.length : Int) := by omega
        have j1 : (0 : Int) ≤ (i : Int) := by omega
        have j2 : (kx : Int) < (ls.length : Int) := by omega
        have j3 : (0 : Int) ≤ (kx : Int) := by omega
        replace hr := Lib.hid hr
        clear hds hdr
        go_upto_region 10 with (fail)
        go_cut [13] (fun v W => v = .bool (meB ra rb a' b') ∧ Hid (Below wr.heap.size wr W))
        case first =>
          go_region_held3 (fun W => W.cell? ⟨bx, ox + i, none⟩ = some (.int .i64 (kx : Int)) ∧ (W.cell? ⟨bs, os + kx * 2, none⟩ = some (.int .i64 ra) ∧ W.cell? ⟨bs, os + kx * 2 + 1, none⟩ = some (.int .i64 rb)) ∧ W.cell? ⟨g7, 0, none⟩ = some (.int .i64 a') ∧ W.cell? ⟨g7, 1, none⟩ = some (.int .i64 b'))
            (first | (with_reducible exact hK.out _ (below_set2 hbm (Nat.le_refl _) _ _)) | (with_reducible exact hK.out _ (bgo (below_set2 hbm (Nat.le_refl _) _ _) (bdrew _))) | exact hK.out _ (by (repeat (first | exact Below.refl _ _ | (refine bgo ?_ (balloc _ _)) | (refine bgo ?_ (bdrew _)) | (refine bgo ?_ (by assumption))))))
            (first
              | ((with_reducible refine (hme.out (wr.alloc (.cells #[.int .i64 0, .int .i64 0] 28)).drew).mono ?_); rintro e w2 ⟨mx, my, rfl, hbm⟩; have bz := ((Box.new wr 28 [.int .i64 0, .int .i64 0]).below (bdrew _)).below hbm; replace hbm := bgo (bgo (balloc wr _) (bdrew _)) hbm; obtain ⟨q0, q1, q2, q3⟩ := box2_cells bz)
              | ((with_reducible refine (hme.out wr.drew).mono ?_); rintro e w2 ⟨mx, my, rfl, hbm⟩; replace hbm := bgo (bdrew wr) hbm))
          all_goals
            go_wp2_with fail
            go_meet
            refine And.intro (congrArg Value.bool hm.symm) ?_
            first
              | (with_reducible exact Lib.hid (below_set2 hbm (Nat.le_refl _) _ _))
              | (with_reducible exact Lib.hid (bgo hbm (balloc w2 _)))
              | (with_reducible exact Lib.hid (bgo (bgo hbm (balloc w2 _)) (bdrew _)))
        case rest =>
        obtain ⟨rfl, hb4⟩ := hcut
        obtain ⟨w4, rfl⟩ : ∃ w4 : World, w4 = wc := ⟨_, rfl⟩
        have y0 := (hK.out w4 hb4.out).1
        replace hb := Lib.hid (bgo hb.out hb4.out)
        clear z0 z1 z2 z3 z4 hK hb4
        rw [hm]
        rcases Nat.eq_zero_or_pos i with hi0 | hi0
        · subst hi0
          go_upto_region 11 with (fail)
          go_quiet (fail)
          go_wp2_with fail
          have hbn : Hid (Below w6.heap.size w6 (w4.drewN nq)) := bgo hb.out (below_drewN (Below.refl _ _) _)
          go_roundw
          case rel => exact ⟨0 + 1, by omega, by go_num, hbn⟩
          case measure => simp [intOf]; omega
        · obtain ⟨p, hp⟩ : ∃ p, p + 1 = i := ⟨i - 1, by omega⟩
          obtain ⟨b1, o1, e1, -, h1⟩ := SeesI.at_ (Sees.below hx.out hb.out) (by omega)
          cases e1
          obtain ⟨y, hy⟩ : ∃ y, xs[p]? = some y := ⟨_, List.getElem?_eq_getElem (by omega)⟩
          have y1 := h1 p y hy
          have hylt : y < (kx : Int) := by
            obtain ⟨q1, e1⟩ := List.getElem?_eq_some_iff.1 hy
            obtain ⟨q2, e2⟩ := List.getElem?_eq_some_iff.1 hxi
            have := List.pairwise_iff_getElem.1 hasc.out p i q1 q2 (by omega)
            rw [e1, e2] at this; exact this
          have n0 : IntKind.i64.wrap ((i : Int) - 1) = (p : Int) := by rw [IntKind.wrap_i64]; omega
          have n1 : (0 : Int) < (i : Int) := by omega
          have n2 : (0 : Int) ≤ (p : Int) := by omega
          have n3 : (p : Int) < (xs.length : Int) := by omega
          have n4 : decide ((kx : Int) ≤ y) = false := decide_eq_false (by omega)
          replace hp := Lib.hid hp
          replace hy := Lib.hid hy
          clear h1
          go_upto_region 11 with (fail)
          go_quiet (fail)
          clear n0 n4
          go_wp2_with fail
          have hbn : Hid (Below w6.heap.size w6 (w4.drewN nq)) := bgo hb.out (below_drewN (Below.refl _ _) _)
          go_roundw
          case rel => exact ⟨i + 1, by omega, by go_num, hbn⟩
          case measure => simp [intOf]; omega
      · have j0 : ¬ (i : Int) < (xs.length : Int) := by omega
        go_wp2_with fail
        refine (hkn.out _).mono ?_
        rintro e w7 ⟨rfl, hb7⟩
        replace hb7 := Lib.hid hb7
        dsimp only
        go_wp2_with fail
        go_ret
        exact ⟨rfl, bgo hbb.out (bgo hb3.out (bgo hb.out hb7.out))⟩
end Go.Proofs.Ytiiaghmdajdbbaa

/- Contract of rough.Decode: the tags of a message. Conditions: that the message is seen. -/
import Derived.Test.YtkefbjpdpcmpnaaGreatTDecP
namespace Go.Proofs.YtkefbjpdpcmpnaaGreat
open Go.RowKit
set_option linter.unusedVariables false
attribute [local go_sem ↓] Go.wp_at_zero Go.wp_at_succ
theorem tag_info : (Tryz.prog.info? 131).map (fun i => (i.zero, i.size, i.bytes)) = some (some (.agg #[.string ⟨#[]⟩, .slice none 0 0]), 2, 40) := by kernel_rfl
set_option maxRecDepth 100000 in
set_option maxHeartbeats 4000000 in
theorem decode_any (B : Nat) (u : Value) (b : Bs) (w : World) (hu : SeesB w B u b) (hB : B ≤ w.heap.size) (hbl : b.length ≤ 1048576) :
    Calls Tryz.prog 89 #[u] w (DecP b w) := by
  obtain ⟨A, c, rfl, hc1, hc2⟩ := hu.mk_
  by_cases g1 : 2048 < b.length
  · have hd := Lib.hid (dec_long b g1)
    have i1 : (2048 : Int) < (b.length : Int) := by omega
    clear hu
    go_enter Tryz.func89, Tryz.ntmps89
    go_wp2_with fail
    go_returns
    exact dec_nil hd.out (by omega) rfl (Below.refl _ _)
  by_cases g2 : b.length < 4
  · have hd := Lib.hid (dec_short b g1 g2)
    have i1 : ¬ (2048 : Int) < (b.length : Int) := by omega
    have i2 : (b.length : Int) < 4 := by omega
    clear hu
    go_enter Tryz.func89, Tryz.ntmps89
    go_wp2_with fail
    go_returns
    exact dec_nil hd.out (by omega) rfl (Below.refl _ _)
  have i1 : ¬ (2048 : Int) < (b.length : Int) := by omega
  have i2 : ¬ (b.length : Int) < 4 := by omega
  have hnum := Lib.hid (number_any B _ b 0 w hu (by omega) (by omega))
  rw [show (((0 : Nat)) : Int) = 0 from rfl] at hnum
  by_cases g3 : placeN b 0 < 1 ∨ 16 < placeN b 0
  · have hd := Lib.hid (dec_limit b g1 g2 g3)
    generalize placeN b 0 = n at *
    rcases g3 with g3 | g3
    · have i3 : (n : Int) < 1 := by omega
      clear hu
      go_enter Tryz.func89, Tryz.ntmps89
      go_wp2_with fail
      refine hnum.out.mono ?_
      rintro e w0 ⟨rfl, rfl⟩
      dsimp only
      go_wp2_with fail
      go_returns
      exact dec_nil hd.out (by omega) rfl (Below.refl _ _)
    · have i3 : ¬ (n : Int) < 1 := by omega
      have i4 : (16 : Int) < (n : Int) := by omega
      clear hu
      go_enter Tryz.func89, Tryz.ntmps89
      go_wp2_with fail
      refine hnum.out.mono ?_
      rintro e w0 ⟨rfl, rfl⟩
      dsimp only
      go_wp2_with fail
      go_returns
      exact dec_nil hd.out (by omega) rfl (Below.refl _ _)
  have i3 : ¬ ((placeN b 0 : Nat) : Int) < 1 := by omega
  have i4 : ¬ (16 : Int) < ((placeN b 0 : Nat) : Int) := by omega
  by_cases g4 : b.length < 8 * placeN b 0
  · have hd := Lib.hid (dec_short2 b g1 g2 g3 g4)
    generalize placeN b 0 = n at *
    have i5 : (b.length : Int) < 8 * (n : Int) := by omega
    clear hu
    go_enter Tryz.func89, Tryz.ntmps89
    go_wp2_with fail
    refine hnum.out.mono ?_
    rintro e w0 ⟨rfl, rfl⟩
    dsimp only
    go_wp2_with fail
    go_returns
    exact dec_nil hd.out (by omega) rfl (Below.refl _ _)
  have i5 : ¬ (b.length : Int) < 8 * ((placeN b 0 : Nat) : Int) := by omega
  have hfm := dec_form b g1 g2 g3 g4
  have htg := dec_tags b g1 g2 g3 g4
  have hdt : decT b = if decC b = 0 then tagsN b (placeN b 0) else [] := rfl
  have hr := run_cut_from (P := Tryz.prog) 23 Tryz.underlying23 1 byte_size A b.length c .i64 (8 * ((placeN b 0 : Nat) : Int)) (by omega) (by omega)
  rw [show (8 * ((placeN b 0 : Nat) : Int)).toNat = 8 * placeN b 0 from by omega] at hr
  have hcut := SeesB.cut (a := 8 * placeN b 0) (b := b.length) hu (by omega) (Nat.le_refl _)
  rw [List.take_of_length_le (by rw [List.length_drop]; omega)] at hcut
  generalize hN : placeN b 0 = n at *
  have hpl := Lib.hid (places_any B _ b n (b.length - 8 * n) w hu hB (by omega) (by omega) (by omega) (by omega) (by omega))
  have hD : (b.drop (8 * n)).length = b.length - 8 * n := List.length_drop
  generalize hz : b.length - 8 * n = z at *
  have hz2 : (b.length : Int) - 8 * (n : Int) = (z : Int) := by omega
  generalize cutA A c (8 * n) 1 = A2 at *
  generalize hc3 : c - 8 * n = c2 at *
  have hc4 : z ≤ c2 := by omega
  have hu' := Lib.hid hu
  have hcut' := Lib.hid hcut
  have hfm' := Lib.hid hfm
  have htg' := Lib.hid htg
  have hdt' := Lib.hid hdt
  replace hz := Lib.hid hz
  replace hD := Lib.hid hD
  replace hc3 := Lib.hid hc3
  replace hN := Lib.hid hN
  clear hu hcut hfm htg hdt
  go_enter Tryz.func89, Tryz.ntmps89
  go_wp2_with fail
  refine hnum.out.mono ?_
  rintro e w0 ⟨rfl, hw0⟩
  obtain rfl := hw0.symm
  dsimp only
  go_wp2_with fail
  refine hpl.out.mono ?_
  rintro e w2 hP
  rcases hP with ⟨hok, v2, rfl, hL, hb2⟩ | ⟨hno, rfl, hb2⟩
  · dsimp only
    by_cases m4 : z % 4 = 0
    · have hdc := htg'.out ⟨hok, m4⟩
      have hat := fun k hk => at_le b n z hok k hk
      rw [show (List.range n).map (fromN b) ++ [z] = listN b n z from rfl] at hL
      have hLl := listN_len b n z
      obtain ⟨AL, cL, rfl, -, -⟩ := hL.sees.mk_
      obtain ⟨gL, oL, rfl, hgL, hLc⟩ := hL.sees.at_ (by omega)
      have hLc2 : ∀ k, k ≤ n → w2.cell? ⟨gL, oL + k, none⟩ = some (.int .i64 ((atN b n z k : Nat) : Int)) := fun k hk => by
        have := hLc k (by omega)
        rwa [listN_get b n z k hk] at this
      have hlit : decide (z % 4 = 0) = true := by rw [decide_eq_true_iff]; exact m4
      rw [hlit]
      have hchk := Lib.hid (fun W u (hW : SeesR W W.heap.size u 2 (tagsN b n).length (tagS (tagsN b n))) => tcheck_any W.heap.size u (tagsN b n) W hW (Nat.le_refl _) (by simp [tagsN]; omega))
      have hK : Hid (∀ k, k < n → ∀ W', Below w2.heap.size w2 W' → W'.cell? ⟨gL, oL + k, none⟩ = some (.int .i64 ((atN b n z k : Nat) : Int)) ∧ W'.cell? ⟨gL, oL + (k + 1), none⟩ = some (.int .i64 ((atN b n z (k + 1) : Nat) : Int))) := fun k hk W' hW' =>
        ⟨(hW'.cell (p := ⟨gL, oL + k, none⟩) hgL).trans (hLc2 k (by omega)), (hW'.cell (p := ⟨gL, oL + (k + 1), none⟩) hgL).trans (hLc2 (k + 1) (by omega))⟩
      have hts : Hid ((tagsN b n) = (List.range n).map (tagN b n)) := rfl
      have hdt2 : Hid (decT b = if checkT [] (tagsN b n) = 0 then tagsN b n else []) := by show _ = _; rw [hdt'.out, hdc]
      replace hdc := Lib.hid hdc
      replace hat := Lib.hid hat
      replace hb2 := Lib.hid hb2
      replace hLl := Lib.hid hLl
      have hsz : (((listN b n z).length : Nat) : Int) = (n : Int) + 1 := by rw [hLl.out]; omega
      replace hsz := Lib.hid hsz
      clear hL hLc hLc2 hlit hfm' htg' hdt' hok hpl
      generalize listN b n z = L at *
      go_wp2_with fail
      go_loopw [8, 9, 10, 50] (fun r _ _ t wr => ∃ k : Nat, k ≤ n ∧ t = .int .i64 k ∧ Hid (OwnR wr w2.heap.size 131 r 2 k (tagS ((List.range k).map (tagN b n)))) ∧ Hid (Below w2.heap.size w2 wr)) (fun _ _ _ t _ => n - (intOf t).toNat)
      case atStart => exact ⟨0, by omega, rfl, OwnR.nil _ _ _ _, Below.refl _ _⟩
      case round =>
        obtain ⟨k, hk, rfl, ho, hb⟩ := hrel
        obtain ⟨Ar, cr, rfl, -, -⟩ := ho.out.sees.mk_
        by_cases hlt : k < n
        · have i9 : (k : Int) < (n : Int) := by omega
          obtain ⟨a1, a2⟩ := hat.out k hlt
          have K := Lib.hid (hK.out k hlt)
          obtain ⟨x0, x1⟩ := K.out wr hb.out
          have hstep := Lib.hid (tagsN_step b n k)
          have htg : Hid (tagN b n k = ((b.drop (4 * (n + k))).take 4, ((b.drop (8 * n)).drop (atN b n z k)).take (atN b n z (k + 1) - atN b n z k))) := by show _ = _; rw [tagN, hz.out]
          generalize atN b n z k = p at *
          generalize atN b n z (k + 1) = q at *
          have hb0 := hb.out
          have hbw := bgo hb2.out hb0
          have hub := hu'.out.below (hbw.mono hB)
          have hcb := hcut'.out.below (hbw.mono hB)
          have hr3 := run_cut (P := Tryz.prog) 23 Tryz.underlying23 1 byte_size A b.length c .i64 .i64 (4 * ((n : Int) + (k : Int))) (4 * ((n : Int) + (k : Int)) + 4) (by omega) (by omega) (by omega)
          rw [show (4 * ((n : Int) + (k : Int))).toNat = 4 * (n + k) by omega, show (4 * ((n : Int) + (k : Int)) + 4).toNat = 4 * (n + k) + 4 by omega] at hr3
          have hnm := SeesB.cut (a := 4 * (n + k)) (b := 4 * (n + k) + 4) hub (by omega) (by omega)
          rw [show 4 * (n + k) + 4 - 4 * (n + k) = 4 by omega] at hnm hr3
          have hstr := hnm.string
          have hr4 := run_cut (P := Tryz.prog) 23 Tryz.underlying23 1 byte_size A2 z c2 .i64 .i64 (p : Int) (q : Int) (by omega) (by omega) (by omega)
          rw [Int.toNat_natCast, Int.toNat_natCast] at hr4
          have hda := SeesB.cut (a := p) (b := q) hcb a1 (by rw [hD.out]; exact a2)
          have hclo := Lib.hid (fun W (hW : Below wr.heap.size wr W) => bclone_any B _ _ W (hda.below (hW.mono (Nat.le_trans hB hbw.size))) (Nat.le_trans hB (Nat.le_trans hbw.size hW.size)) (by rw [List.length_take]; omega))
          generalize (b.drop (4 * (n + k))).take 4 = nm at *
          generalize cutA A c (4 * (n + k)) 1 = A3 at *
          generalize c - 4 * (n + k) = c3 at *
          generalize ((b.drop (8 * n)).drop p).take (q - p) = da at *
          generalize cutA A2 c2 p 1 = A4 at *
          generalize c2 - p = c4 at *
          generalize (List.range k).map (tagN b n) = acc at *
          obtain ⟨ti, hti, htz, hts', htby⟩ := info_parts tag_info
          have hst1 : (Value.string (strB nm)).oneCell' = true := rfl
          generalize hS1 : strB nm = S1 at *
          replace hS1 := Lib.hid hS1
          clear hub hcb hnm hda hbw
          have i12 : (k : Int) < ((L.length : Nat) : Int) := by have := hsz.out; omega
          have i13 : (k : Int) + 1 < ((L.length : Nat) : Int) := by have := hsz.out; omega
          have i14 : IntKind.i64.wrap ((k : Int) + 1) = (k : Int) + 1 := by rw [IntKind.wrap_i64]; omega
          have i15 : ((k : Int) + 1).toNat = k + 1 := by omega
          have i16 : (0 : Int) ≤ (k : Int) + 1 := by omega
          have i10 : (p : Int) ≤ (q : Int) := by omega
          have i11 : (q : Int) ≤ (c2 : Int) := by omega
          go_wp2_with fail
          go_region_held3 (fun W' : World => W'.cell? ⟨gL, oL + k, none⟩ = some (.int .i64 (p : Int)) ∧ W'.cell? ⟨gL, oL + (k + 1), none⟩ = some (.int .i64 (q : Int)))
            (first | exact K.out _ (hb3.out.trans hb4) | exact K.out _ (by (repeat (first | exact Below.refl _ _ | (refine bgo ?_ (balloc _ _)) | (refine bgo ?_ (bdrew _)) | (refine bgo ?_ (by assumption))))) | (go_keep; done))
            (first
              | (refine step_appR (by rfl) _ _ 107 131 Tryz.underlying107 (by rfl) ti _ 2 40 hti htz hts' htby (by rfl) (by omega) (by omega) w2.heap.size _ k _ (by rfl) ho2.out _ _ 1 _ [.val (.string S1), .byt da] (by rfl) hrec.out (by rfl) hel.out (by omega) hb3.out.size ?_; intro v' w' hW2 hb4)
              | (go_at_call 125; refine (hclo.out _ (bdrew wr)).mono ?_; rintro e w5 ⟨v5, rfl, h5, hb5⟩; obtain ⟨A5, c5, rfl, -, -⟩ := h5.sees.mk_
                 have hw5 := bgo (bdrew wr) hb5
                 have hal := balloc w5 (.cells #[.string S1, .slice A5 da.length c5] 131)
                 have hrec : Hid (Sees (w5.alloc (.cells #[.string S1, .slice A5 da.length c5] 131)) (w5.heap.size + 1) (.slice (some ⟨w5.heap.size, 0, none⟩) 1 1) 2 1 [.string S1, .slice A5 da.length c5]) := rec_lit w5 131 [.string S1, .slice A5 da.length c5]
                 have ho2 := Lib.hid ((ho.out.below hw5).below hal)
                 have hel := Lib.hid (two_elt hst1 ((EltS.of_from (v := .slice Ar k cr) h5.sees h5.from (fun j hj => (ho.out.lt j hj).2)).below hal))
                 have hb3 := Lib.hid (bgo (bgo hb0 hw5) hal)
                 clear hal h5))
          all_goals
            go_wp2_with fail
            go_roundw
            case rel => exact ⟨k + 1, by omega, by go_num, by rw [hstep.out, tagS_append, htg.out, show tagS [(nm, da)] = [Spec.val (.string (strB nm)), Spec.byt da] from rfl, hS1.out]; exact hW2, hb3.out.trans hb4⟩
            case measure => simp [intOf]; omega
        · obtain rfl : n = k := by omega
          have i9 : ¬ (n : Int) < (n : Int) := by omega
          have hs9 : Hid (SeesR wr wr.heap.size (.slice Ar n cr) 2 (tagsN b n).length (tagS (tagsN b n))) := by
            have h9 := ho.out.sees
            rw [← hts.out] at h9
            have hl9 : (tagsN b n).length = n := by simp [tagsN]
            show SeesR _ _ _ _ _ _
            rw [hl9]
            exact h9
          generalize tagsN b n = ts at *
          have hcw := Lib.hid (hchk.out wr _ hs9.out)
          clear hchk
          generalize checkT [] ts = E at *
          by_cases hE : E = 0
          · have hd0 : Hid (decT b = ts) := by show _ = _; rw [hdt2.out, if_pos hE]
            subst hE
            go_wp2_with fail
            refine hcw.out.mono ?_
            rintro e w6 ⟨rfl, hb6⟩
            dsimp only
            go_wp2_with fail
            go_returns
            exact ⟨.slice Ar n cr, by rw [hdc.out]; rfl, by rw [hd0.out]; exact (hs9.out.below hb6).more hb6.size, bgo (bgo hb2.out hb.out) hb6⟩
          · go_wp2_with fail
            refine hcw.out.mono ?_
            rintro e w6 ⟨rfl, hb6⟩
            dsimp only
            go_wp2_with fail
            go_returns
            exact dec_nil hdc.out hE rfl (bgo (bgo hb2.out hb.out) hb6)
    · have hdc := hfm'.out (fun h => m4 h.2)
      have hlit : decide (z % 4 = 0) = false := by rw [decide_eq_false_iff_not]; exact m4
      rw [hlit]
      obtain ⟨AL, cL, rfl, -, -⟩ := hL.sees.mk_
      replace hdc := Lib.hid hdc
      clear hlit hL
      go_wp2_with fail
      go_returns
      exact dec_nil hdc.out (by omega) rfl hb2
  · have hdc := hfm'.out (fun h => by rw [hno] at h; exact absurd h.1 (by simp))
    replace hdc := Lib.hid hdc
    dsimp only
    go_wp2_with fail
    go_returns
    exact dec_nil hdc.out (by omega) rfl hb2
end Go.Proofs.YtkefbjpdpcmpnaaGreat

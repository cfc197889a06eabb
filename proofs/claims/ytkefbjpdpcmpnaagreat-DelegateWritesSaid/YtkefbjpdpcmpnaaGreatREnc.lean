/- Contract of sectimeref28.Encode: the bytes of tags. Conditions: the tags are seen; at most 1048576 bytes of data. -/
import Derived.Test.YtkefbjpdpcmpnaaGreatEnc
import Derived.BigQuiet
namespace Go.Proofs.YtkefbjpdpcmpnaaGreat
open Go.RowKit
set_option linter.unusedVariables false
attribute [local go_sem ↓] Go.wp_at_zero Go.wp_at_succ
def lastT (ts : List (Bs × Bs)) (k : Nat) : Bs := if k = 0 then [] else (ts.getD (k - 1) ([], [])).1
theorem lastT_succ (ts : List (Bs × Bs)) (m : Nat) (t : Bs × Bs) (h : ts[m]? = some t) : lastT ts (m + 1) = t.1 := by
  rw [lastT, if_neg (by omega), Nat.add_sub_cancel, List.getD_eq_getElem?_getD, h]
  rfl
set_option maxRecDepth 100000 in
set_option maxHeartbeats 8000000 in
theorem rencode_any (B : Nat) (u : Value) (ts : List (Bs × Bs)) (w : World) (hu : SeesR w B u 2 ts.length (tagS ts)) (hB : B ≤ w.heap.size) (hn : ts.length ≤ 1048576) (hd : (dataT ts).length ≤ 1048576) :
    Calls Tryz.prog 98 #[u] w (EncP ts w) := by
  obtain ⟨A, c, rfl, -, -⟩ := hu.mk_
  by_cases hl : ts.length < 1 ∨ 16 < ts.length
  · have hbad : Hid (encC ts = 8) := by show _ = _; rw [encC, if_pos hl]
    rcases hl with hl | hl
    · have i0 : (ts.length : Int) < 1 := by omega
      go_enter Tryz.func98, Tryz.ntmps98
      go_wp2_with fail
      go_returns
      exact enc_bad hbad.out (by decide) rfl (Below.refl _ _)
    · have i0 : ¬ (ts.length : Int) < 1 := by omega
      have i1 : (16 : Int) < (ts.length : Int) := by omega
      go_enter Tryz.func98, Tryz.ntmps98
      go_wp2_with fail
      go_returns
      exact enc_bad hbad.out (by decide) rfl (Below.refl _ _)
  · have i0 : ¬ (ts.length : Int) < 1 := by omega
    have i1 : ¬ (16 : Int) < (ts.length : Int) := by omega
    have hnl : 1 ≤ ts.length ∧ ts.length ≤ 16 := by omega
    have hec : Hid (encC ts = if checkT [] ts = 0 then (if 2048 < (bodyT ts).length then 2 else 0) else checkT [] ts) := by show _ = _; rw [encC, if_neg hl]
    have hbad : Hid (∀ c, checkT [] ts = c → c ≠ 0 → encC ts = c) := fun c h h0 => by rw [hec.out, if_neg (by omega), h]
    clear hl
    replace hu := Lib.hid hu
    go_enter Tryz.func98, Tryz.ntmps98
    go_wp2_with fail
    go_loopw [4, 5] (fun sz t wr => ∃ k : Nat, k ≤ ts.length ∧ t = .int .i64 k ∧ sz = .int .i64 ((8 * ts.length + (dataT (ts.take k)).length : Nat) : Int) ∧ Hid (checkT (lastT ts k) (ts.drop k) = checkT [] ts) ∧ Hid (Below w.heap.size w wr)) (fun _ t _ => ts.length - (intOf t).toNat)
    case atStart => exact ⟨0, by omega, rfl, by simp [dataT], rfl, Below.refl _ _⟩
    case round =>
      obtain ⟨k, hk, rfl, rfl, hch, hb⟩ := hrel
      by_cases hlt : k < ts.length
      · obtain ⟨t, ht⟩ : ∃ t, ts[k]? = some t := ⟨ts[k], List.getElem?_eq_getElem hlt⟩
        obtain ⟨b, o, A', c', hAe, hbB, x0, x1, -⟩ := tag_at (hu.out.below (hb.out.mono hB)) k t ht
        have hnm := fun W => rnamed_any t.1 W
        have hcm := Lib.hid (checkT_step ts k t (lastT ts k) ht)
        have hcn := Lib.hid (checkT_name ts k t (lastT ts k) ht)
        have hco := Lib.hid (checkT_order ts k t (lastT ts k) ht)
        have hcf := Lib.hid (checkT_form ts k t (lastT ts k) ht)
        have hls := Lib.hid (lastT_succ ts k t ht)
        have hst := Lib.hid (dataT_step ts k t ht)
        have hdl := Lib.hid (dataT_take ts (k + 1))
        have l1 := strB_toList t.1
        have hprev : ∀ m, k = m + 1 → ∃ (tm : Bs × Bs), lastT ts k = tm.1 ∧ wr.cell? ⟨b, o + m * 2, none⟩ = some (.string (strB tm.1)) := fun m hm => by
          obtain ⟨tm, htm⟩ : ∃ tm, ts[m]? = some tm := ⟨ts[m]'(by omega), List.getElem?_eq_getElem (by omega)⟩
          obtain ⟨b', o', A2, c2, hAe', hbB', y0, -, -⟩ := tag_at (hu.out.below (hb.out.mono hB)) m tm htm
          rw [hAe] at hAe'
          injection hAe' with e1
          injection e1 with e1 e2 e3
          subst e1 e2
          exact ⟨tm, by rw [hm]; exact lastT_succ ts m tm htm, y0⟩
        obtain ⟨nm, da⟩ := t
        dsimp only at hnm hcm hcn hco hcf hls hst l1 x0 x1
        have j0 : (k : Int) < (ts.length : Int) := by omega
        have hbk : b < wr.heap.size := Nat.lt_of_lt_of_le hbB (Nat.le_trans hB hb.out.size)
        replace ht := Lib.hid ht
        replace hprev := Lib.hid hprev
        replace hu := Lib.hid hu
        subst hAe
        generalize hS1 : strB nm = S1 at *
        replace hS1 := Lib.hid hS1
        have hsz : (dataT (ts.take (k + 1))).length = (dataT (ts.take k)).length + da.length := by rw [hst.out, List.length_append]
        have hdl' : (dataT (ts.take (k + 1))).length ≤ 1048576 := Nat.le_trans hdl.out hd
        generalize hDk : (dataT (ts.take k)).length = dk at *
        generalize hDk1 : (dataT (ts.take (k + 1))).length = dk1 at *
        replace hDk := Lib.hid hDk
        replace hDk1 := Lib.hid hDk1
        have hkb : dk + da.length ≤ 1048576 := by omega
        replace hsz := Lib.hid hsz
        have hkb' := Lib.hid hkb
        cases hV : namedG nm with
        | false =>
          have hend := hcn.out hV
          rw [hch.out] at hend
          rw [hV] at hnm
          replace hnm := Lib.hid hnm
          replace hend := Lib.hid hend
          go_wp2_with fail
          refine (hnm.out _).mono ?_
          rintro e w2 ⟨rfl, hb2⟩
          dsimp only
          go_wp2_with fail
          go_returns
          exact enc_bad (hbad.out _ hend.out (by decide)) (by decide) rfl (bgo hb.out hb2)
        | true =>
          rw [hV] at hnm
          replace hnm := Lib.hid hnm
          replace hV := Lib.hid hV
          have z0 := fun w2 (h : Below wr.heap.size wr w2) => (h.cell (p := ⟨b, o + k * 2, none⟩) hbk).trans x0
          have z1 := fun w2 (h : Below wr.heap.size wr w2) => (h.cell (p := ⟨b, o + k * 2 + 1, none⟩) hbk).trans x1
          replace z0 := Lib.hid z0
          replace z1 := Lib.hid z1
          go_wp2_with fail
          refine (hnm.out _).mono ?_
          rintro e w2 ⟨rfl, hb2⟩
          clear hnm x0 x1
          have x0 := z0.out w2 hb2
          have x1 := z1.out w2 hb2
          replace hb := Lib.hid (bgo hb.out hb2)
          dsimp only
          by_cases k0 : k = 0
          · have hD : (Op.bytesLess nm (lastT ts k) || nm == lastT ts k) = false := by rw [lastT, if_pos k0]; exact less_nil nm (named_len nm hV.out)
            have ik : decide (0 < k) = false := by simp; omega
            replace k0 := Lib.hid k0
            clear hb2 z0 z1
            by_cases h4 : da.length % 4 = 0
            · have hend : Hid (checkT (lastT ts (k + 1)) (ts.drop (k + 1)) = checkT [] ts) := by show _ = _; rw [hls.out, ← hcm.out hV.out hD h4, hch.out]
              have i4 : ((da.length : Nat) : Int) % 4 = 0 := by omega
              replace h4 := Lib.hid h4
              replace hD := Lib.hid hD
              clear hcm hcn hco hcf hch
              go_wp2_with fail
              go_quiet (fail)
              go_wp2_with fail
              go_roundw
              case rel => exact ⟨k + 1, by omega, by go_num, by rw [hDk1.out, hsz.out]; go_num, hend, below_drewN hb.out _⟩
              case measure => simp [intOf]; omega
            · have hend := hcf.out hV.out hD h4
              rw [hch.out] at hend
              have i4 : ¬ (((da.length : Nat) : Int) % 4 = 0) := by omega
              replace hend := Lib.hid hend
              replace h4 := Lib.hid h4
              replace hD := Lib.hid hD
              clear hcm hcn hco hcf hch
              go_wp2_with fail
              go_quiet (fail)
              go_wp2_with fail
              go_returns
              exact enc_bad (hbad.out _ hend.out (by decide)) (by decide) rfl (below_drewN hb.out _)
          · obtain ⟨m, hm⟩ : ∃ m, k = m + 1 := ⟨k - 1, by omega⟩
            obtain ⟨tm, hl9, y0⟩ := hprev.out m hm
            replace y0 := (hb2.cell (p := ⟨b, o + m * 2, none⟩) hbk).trans y0
            have l2 := strB_toList tm.1
            have hlt9 := less_total tm.1 nm
            rw [hl9] at hch hcm hcn hco hcf
            generalize tm.1 = la at *
            generalize strB la = S2 at *
            have ik : decide (0 < k) = true := by simp; omega
            have im : (k : Int) - 1 = (m : Int) := by omega
            have im2 : (m : Int) < (ts.length : Int) := by omega
            replace hm := Lib.hid hm
            replace k0 := Lib.hid k0
            replace hl9 := Lib.hid hl9
            clear hb2 z0 z1
            cases hp : Op.bytesLess la nm with
            | false =>
              rw [hp] at hlt9
              have hend := hco.out hV.out (by rw [← hlt9]; rfl)
              rw [hch.out] at hend
              replace hend := Lib.hid hend
              replace hlt9 := Lib.hid hlt9
              clear hcm hcn hco hcf hch
              go_wp2_with fail
              go_quiet (fail)
              go_wp2_with fail
              go_returns
              exact enc_bad (hbad.out _ hend.out (by decide)) (by decide) rfl (below_drewN hb.out _)
            | true =>
              rw [hp] at hlt9
              have hD : (Op.bytesLess nm la || nm == la) = false := by rw [← hlt9]; rfl
              replace hlt9 := Lib.hid hlt9
              by_cases h4 : da.length % 4 = 0
              · have hend : Hid (checkT (lastT ts (k + 1)) (ts.drop (k + 1)) = checkT [] ts) := by show _ = _; rw [hls.out, ← hcm.out hV.out hD h4, hch.out]
                have i4 : ((da.length : Nat) : Int) % 4 = 0 := by omega
                replace h4 := Lib.hid h4
                replace hD := Lib.hid hD
                clear hcm hcn hco hcf hch
                go_wp2_with fail
                go_quiet (fail)
                go_wp2_with fail
                go_roundw
                case rel => exact ⟨k + 1, by omega, by go_num, by rw [hDk1.out, hsz.out]; go_num, hend, below_drewN hb.out _⟩
                case measure => simp [intOf]; omega
              · have hend := hcf.out hV.out hD h4
                rw [hch.out] at hend
                have i4 : ¬ (((da.length : Nat) : Int) % 4 = 0) := by omega
                replace hend := Lib.hid hend
                replace h4 := Lib.hid h4
                replace hD := Lib.hid hD
                clear hcm hcn hco hcf hch
                go_wp2_with fail
                go_quiet (fail)
                go_wp2_with fail
                go_returns
                exact enc_bad (hbad.out _ hend.out (by decide)) (by decide) rfl (below_drewN hb.out _)
      · have hk9 : k = ts.length := by omega
        subst hk9
        have j0 : ¬ (ts.length : Int) < (ts.length : Int) := by omega
        rw [List.drop_eq_nil_of_le (Nat.le_refl _)] at hch
        have hc0 : checkT [] ts = 0 := by rw [← hch.out]; rfl
        rw [List.take_of_length_le (Nat.le_refl _)]
        have hok := Lib.hid (checkT_ok ts [] hc0)
        have hbl : (bodyT ts).length = 8 * ts.length + (dataT ts).length := bodyT_len ts (fun t ht => (hok.out t ht).1) hnl.1
        by_cases hlong : 2048 < (bodyT ts).length
        · have hbd : Hid (encC ts = 2) := by show _ = _; rw [hec.out, if_pos hc0, if_pos hlong]
          have j1 : (2048 : Int) < ((8 * ts.length + (dataT ts).length : Nat) : Int) := by omega
          clear hch
          replace hc0 := Lib.hid hc0
          go_wp2_with fail
          go_returns
          exact enc_bad hbd.out (by decide) rfl hb.out
        · have hgd : Hid (encC ts = 0) := by show _ = _; rw [hec.out, if_pos hc0, if_neg hlong]
          have j1 : ¬ (2048 : Int) < ((8 * ts.length + (dataT ts).length : Nat) : Int) := by omega
          have iw : IntKind.u64.wrap (ts.length : Int) = (ts.length : Int) := by rw [IntKind.wrap_u64]; omega
          have hput := Lib.hid (fun W => rput_any ts.length 4 (by omega) (by omega) W)
          have hn4 : Hid ((namesT ts).length = 4 * ts.length) := namesT_len ts (fun t ht => (hok.out t ht).1)
          have hnk : Hid (∀ k, (namesT (ts.take k)).length ≤ 64) := fun k => by
            rw [namesT_len _ (fun t ht => (hok.out t (List.mem_of_mem_take ht)).1), List.length_take]
            omega
          clear hch
          replace hc0 := Lib.hid hc0
          replace hbl := Lib.hid hbl
          go_wp2_with fail
          refine (hput.out wr).mono ?_
          rintro e w2 ⟨v2, rfl, f2, hb2⟩
          have f2' : OwnB w2 w.heap.size v2 (putB 4 ts.length) := f2.mono hb.out.size
          replace hb2 := bgo hb.out hb2
          clear hput iw hb f2
          obtain ⟨w0, rfl⟩ : ∃ w0 : World, w0 = w := ⟨_, rfl⟩
          dsimp only
          go_wp2_with fail
          go_loopw [6, 7, 8] (fun ou pl t wr => ∃ k : Nat, k + 1 ≤ ts.length ∧ t = .int .i64 k ∧ pl = .int .i64 ((dataT (ts.take k)).length : Int) ∧ Hid (OwnB wr w0.heap.size ou (putB 4 ts.length ++ placesT ts k)) ∧ Hid (Below w0.heap.size w0 wr)) (fun _ _ t _ => ts.length - (intOf t).toNat)
          case atStart => exact ⟨0, by omega, rfl, by simp [dataT], by show OwnB _ _ _ _; rw [placesT, List.append_nil]; exact f2', hb2⟩
          case round =>
            clear f2' hb2
            obtain ⟨k, hk, rfl, rfl, ho, hb⟩ := hrel
            by_cases hlt : k + 1 < ts.length
            · obtain ⟨t, ht⟩ : ∃ t, ts[k]? = some t := ⟨ts[k], List.getElem?_eq_getElem (by omega)⟩
              obtain ⟨b, o, A', c', rfl, hbB, x0, x1, -⟩ := tag_at (hu.out.below (hb.out.mono hB)) k t ht
              have hst := Lib.hid (dataT_step ts k t ht)
              have hdl := Lib.hid (dataT_take ts (k + 1))
              obtain ⟨nm, da⟩ := t
              dsimp only at hst x0 x1
              have hsz : (dataT (ts.take (k + 1))).length = (dataT (ts.take k)).length + da.length := by rw [hst.out, List.length_append]
              have hdl' : (dataT (ts.take (k + 1))).length ≤ 1048576 := Nat.le_trans hdl.out hd
              have hps : Hid (placesT ts (k + 1) = placesT ts k ++ putB 4 (dataT (ts.take (k + 1))).length) := rfl
              have hpl : (putB 4 ts.length ++ placesT ts k).length ≤ 1000 := by rw [List.length_append, putB_len, placesT_len]; omega
              generalize hDk : (dataT (ts.take k)).length = dk at *
              generalize hDk1 : (dataT (ts.take (k + 1))).length = dk1 at *
              replace hDk := Lib.hid hDk
              replace hDk1 := Lib.hid hDk1
              have hsm : (dk : Int) + (da.length : Int) = (dk1 : Int) := by omega
              have hkb : (dk : Int) + (da.length : Int) ≤ 1048576 := by omega
              have hsz' := Lib.hid hsz
              have hdl9 := Lib.hid hdl'
              have hpl' := Lib.hid hpl
              have hsm' := Lib.hid hsm
              have j2 : (k : Int) + 1 < (ts.length : Int) := by omega
              have j3 : (k : Int) < (ts.length : Int) := by omega
              have iw : IntKind.u64.wrap (dk1 : Int) = (dk1 : Int) := by rw [IntKind.wrap_u64]; omega
              have iw2 : IntKind.u64.wrap ((dk : Int) + (da.length : Int)) = (dk1 : Int) := by rw [hsm]; exact iw
              have hput := Lib.hid (fun W => rput_any dk1 4 (by omega) (by omega) W)
              clear hsm hsz hdl' hpl
              replace ht := Lib.hid ht
              go_wp2_with fail
              refine (hput.out wr).mono ?_
              rintro e w3 ⟨v3, rfl, f3, hb3⟩
              have f3s := Lib.hid f3.sees
              obtain ⟨A3, c3, rfl, -, -⟩ := f3.sees.mk_
              have hl4 := Lib.hid (putB_len 4 dk1)
              have ho3 := Lib.hid (ho.out.below hb3)
              replace hb := Lib.hid (bgo hb.out hb3)
              clear f3 hb3 hput iw iw2 ho x0 x1
              dsimp only
              go_wp2_with (at_builtin; refine wpList_app (by rfl) _ _ rfl w0.heap.size _ _ rfl ho3.out _ _ (putB 4 dk1) rfl f3s.out (by rw [hl4.out]; have := hpl'.out; omega) hb.out.size ?_)
              intro v' w' hW2 hb4
              have hW2 := Lib.hid hW2
              have hb4 := Lib.hid (hb.out.trans hb4)
              have hsm := hsm'.out
              have hnum : (Value.int .i64 ((dk : Int) + (da.length : Int))) = .int .i64 (dk1 : Int) := by rw [hsm]
              replace hnum := Lib.hid hnum
              clear hsm
              go_wp2_with fail
              go_roundw
              case rel => exact ⟨k + 1, by omega, by go_num, by rw [hDk1.out]; exact hnum.out, by show OwnB _ _ _ _; rw [hps.out, ← List.append_assoc]; exact hW2.out, hb4⟩
              case measure => simp [intOf]; omega
            · have hk9 : k = ts.length - 1 := by omega
              have j2 : ¬ (k : Int) + 1 < (ts.length : Int) := by omega
              rw [hk9] at ho
              have hk10 := Lib.hid hk9
              clear hk9
              obtain ⟨w5, hw5⟩ : ∃ w5 : World, w5 = wr := ⟨_, rfl⟩
              have hb5 := hb
              have ho5 := ho
              rw [← hw5] at hb5 ho5
              replace hw5 := Lib.hid hw5
              go_wp2_with fail
              rw [← hw5.out]
              go_loopw [6, 9] (fun ou t wr => ∃ k : Nat, k ≤ ts.length ∧ t = .int .i64 k ∧ Hid (OwnB wr w0.heap.size ou (putB 4 ts.length ++ placesT ts (ts.length - 1) ++ namesT (ts.take k))) ∧ Hid (Below w0.heap.size w0 wr)) (fun _ t _ => ts.length - (intOf t).toNat)
              case atStart => exact ⟨0, by omega, rfl, by show OwnB _ _ _ _; rw [show namesT (ts.take 0) = [] from rfl, List.append_nil]; exact ho5.out, hb5⟩
              case round =>
                clear ho hb ho5 hb5 hw5
                obtain ⟨q, hq, rfl, ho, hb⟩ := hrel
                by_cases hlt : q < ts.length
                · obtain ⟨t, ht⟩ : ∃ t, ts[q]? = some t := ⟨ts[q], List.getElem?_eq_getElem (by omega)⟩
                  obtain ⟨b, o, A', c', rfl, hbB, x0, x1, -⟩ := tag_at (hu.out.below (hb.out.mono hB)) q t ht
                  have hst := Lib.hid (namesT_step ts q t ht)
                  have hq4 := hnk.out (q + 1)
                  rw [hst.out, List.length_append] at hq4
                  obtain ⟨nm, da⟩ := t
                  dsimp only at hst x0 x1 hq4
                  have hpl : (putB 4 ts.length ++ placesT ts (ts.length - 1) ++ namesT (ts.take q)).length + nm.length ≤ 140737488355328 := by rw [List.length_append, List.length_append, putB_len, placesT_len]; omega
                  replace hpl := Lib.hid hpl
                  have j3 : (q : Int) < (ts.length : Int) := by omega
                  replace ht := Lib.hid ht
                  replace hq4 := Lib.hid hq4
                  generalize hS : strB nm = S at *
                  replace hS := Lib.hid hS
                  go_wp2_with (at_builtin; refine wpList_appS (by rfl) _ _ rfl w0.heap.size _ _ nm rfl ho.out S hS.out.symm rfl hpl.out hb.out.size ?_)
                  intro v' w' hW2 hg4 hm4
                  have hb4 := Lib.hid (hb.out.trans (below_grown ho.out hg4 hb.out.size))
                  have hW2 := Lib.hid hW2
                  clear hg4 hm4
                  go_wp2_with fail
                  go_roundw
                  case rel => exact ⟨q + 1, by omega, by go_num, by show OwnB _ _ _ _; rw [hst.out]; simpa only [List.append_assoc] using hW2.out, hb4⟩
                  case measure => simp [intOf]; omega
                · have hq9 : q = ts.length := by omega
                  subst hq9
                  have j3 : ¬ (ts.length : Int) < (ts.length : Int) := by omega
                  rw [List.take_of_length_le (Nat.le_refl _)] at ho
                  obtain ⟨w6, hw6⟩ : ∃ w6 : World, w6 = wr := ⟨_, rfl⟩
                  have hb6 := hb
                  have ho6 := ho
                  rw [← hw6] at hb6 ho6
                  replace hw6 := Lib.hid hw6
                  go_wp2_with fail
                  rw [← hw6.out]
                  go_loopw [6, 10] (fun ou t wr => ∃ k : Nat, k ≤ ts.length ∧ t = .int .i64 k ∧ Hid (OwnB wr w0.heap.size ou (putB 4 ts.length ++ placesT ts (ts.length - 1) ++ namesT ts ++ dataT (ts.take k))) ∧ Hid (Below w0.heap.size w0 wr)) (fun _ t _ => ts.length - (intOf t).toNat)
                  case atStart => exact ⟨0, by omega, rfl, by show OwnB _ _ _ _; rw [show dataT (ts.take 0) = [] from rfl, List.append_nil]; exact ho6.out, hb6⟩
                  case round =>
                    clear ho hb ho6 hb6 hw6
                    obtain ⟨r, hr, rfl, ho, hb⟩ := hrel
                    by_cases hlt : r < ts.length
                    · obtain ⟨t, ht⟩ : ∃ t, ts[r]? = some t := ⟨ts[r], List.getElem?_eq_getElem (by omega)⟩
                      obtain ⟨b, o, A', c', rfl, hbB, x0, x1, sd⟩ := tag_at (hu.out.below (hb.out.mono hB)) r t ht
                      have hst := Lib.hid (dataT_step ts r t ht)
                      have hdl := dataT_take ts (r + 1)
                      rw [hst.out, List.length_append] at hdl
                      obtain ⟨nm, da⟩ := t
                      dsimp only at hst x0 x1 hdl sd
                      have hpl : (putB 4 ts.length ++ placesT ts (ts.length - 1) ++ namesT ts ++ dataT (ts.take r)).length + da.length ≤ 140737488355328 := by rw [List.length_append, List.length_append, List.length_append, putB_len, placesT_len, hn4.out]; omega
                      replace hpl := Lib.hid hpl
                      have j3 : (r : Int) < (ts.length : Int) := by omega
                      replace ht := Lib.hid ht
                      replace hdl := Lib.hid hdl
                      replace sd := Lib.hid sd
                      go_wp2_with (at_builtin; refine wpList_app (by rfl) _ _ rfl w0.heap.size _ _ rfl ho.out _ _ da rfl sd.out hpl.out hb.out.size ?_)
                      intro v' w' hW2 hb4
                      have hb4 := Lib.hid (hb.out.trans hb4)
                      have hW2 := Lib.hid hW2
                      go_wp2_with fail
                      go_roundw
                      case rel => exact ⟨r + 1, by omega, by go_num, by show OwnB _ _ _ _; rw [hst.out]; simpa only [List.append_assoc] using hW2.out, hb4⟩
                      case measure => simp [intOf]; omega
                    · have hr9 : r = ts.length := by omega
                      subst hr9
                      have j3 : ¬ (ts.length : Int) < (ts.length : Int) := by omega
                      rw [List.take_of_length_le (Nat.le_refl _)] at ho
                      go_wp2_with fail
                      go_returns
                      exact enc_ok hgd.out rfl ho.out hb.out
end Go.Proofs.YtkefbjpdpcmpnaaGreat

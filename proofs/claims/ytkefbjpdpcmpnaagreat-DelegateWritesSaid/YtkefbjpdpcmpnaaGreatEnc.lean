/- Contract of rough.Encode: the bytes of tags. Conditions: the tags are seen; at most 1048576 bytes of data. -/
import Derived.Test.YtkefbjpdpcmpnaaGreatAppB
namespace Go.Proofs.YtkefbjpdpcmpnaaGreat
open Go.RowKit
set_option linter.unusedVariables false
attribute [local go_sem ↓] Go.wp_at_zero Go.wp_at_succ
def EncP (ts : List (Bs × Bs)) (w : World) (e : Ending) (w' : World) : Prop := ∃ v, e = .returned (.tuple #[v, .int .i64 (encC ts)]) ∧ OwnB w' w.heap.size v (encT ts) ∧ Below w.heap.size w w'
theorem enc_bad {ts : List (Bs × Bs)} {c : Int} (h : encC ts = c) (hc : c ≠ 0) {w w' : World} {e : Ending} (he : e = .returned (.tuple #[.slice none 0 0, .int .i64 c])) (hb : Below w.heap.size w w') : EncP ts w e w' := by
  refine ⟨.slice none 0 0, by rw [h]; exact he, ?_, hb⟩
  rw [encT, h, if_neg hc]
  exact World.ownsRow_nil _ _ _ 1
theorem enc_ok {ts : List (Bs × Bs)} {v : Value} (h : encC ts = 0) {w w' : World} {e : Ending} (he : e = .returned (.tuple #[v, .int .i64 0])) (h1 : OwnB w' w.heap.size v (bodyT ts)) (hb : Below w.heap.size w w') : EncP ts w e w' := by
  refine ⟨v, by rw [h]; exact he, ?_, hb⟩
  rw [encT, h, if_pos rfl]
  exact h1
theorem enc_two {w0 w1 w2 : World} {base : Nat} {v5 v6 v7 v6' v7' : Value} {l5 l6 l7 l6' l7' : Bs} (h5 : OwnB w0 base v5 l5) (h6 : OwnB w0 base v6 l6) (h7 : OwnB w0 base v7 l7) (a56 : Apart v5 v6) (a57 : Apart v5 v7) (a67 : Apart v6 v7)
    (g1 : w0.grownBy w1 v6.ownBlock) (m1 : Moved w0 v6 v6') (h6' : OwnB w1 base v6' l6') (g2 : w1.grownBy w2 v7.ownBlock) (m2 : Moved w1 v7 v7') (h7' : OwnB w2 base v7' l7') (hb : base ≤ w0.heap.size) :
    OwnB w2 base v5 l5 ∧ OwnB w2 base v6' l6' ∧ OwnB w2 base v7' l7' ∧ Apart v5 v6' ∧ Apart v5 v7' ∧ Apart v6' v7' ∧ Below base w0 w2 := by
  have x5 := h5.apart g1 a56.symm
  have x7 := h7.apart g1 a67
  have b1 := below_grown h6 g1 hb
  have b2 := below_grown x7 g2 (Nat.le_trans hb g1.size)
  have c67 := a67.moved m1 h7
  have c56 := a56.symm.moved m1 h5
  refine ⟨x5.apart g2 a57.symm, h6'.apart g2 c67.symm, h7', c56.symm, (a57.symm.moved m2 x5).symm, (c67.symm.moved m2 h6').symm, b1.trans b2⟩
theorem Box.apartV {w w' : World} {p : Nat} {T : TypeId} {xs : List Value} {v : Value} (h : Box w p T xs) (hg : w.grownBy w' v.ownBlock) (hne : v.ownBlock ≠ some p) : Box w' p T xs :=
  (hg.block p h.lt (fun e => hne e.symm)).trans h
theorem dataT_take (ts : List (Bs × Bs)) (k : Nat) : (dataT (ts.take k)).length ≤ (dataT ts).length := by
  have h : dataT ts = dataT (ts.take k) ++ dataT (ts.drop k) := by
    unfold dataT
    rw [← List.flatten_append, ← List.map_append, List.take_append_drop]
  rw [h, List.length_append]
  omega
set_option maxRecDepth 100000 in
set_option maxHeartbeats 4000000 in
theorem encode_any (B : Nat) (u : Value) (ts : List (Bs × Bs)) (w : World) (hu : SeesR w B u 2 ts.length (tagS ts)) (hB : B ≤ w.heap.size) (hn : ts.length ≤ 1048576) (hd : (dataT ts).length ≤ 1048576) :
    Calls Tryz.prog 155 #[u] w (EncP ts w) := by
  obtain ⟨A, c, rfl, -, -⟩ := hu.mk_
  by_cases hl : ts.length < 1 ∨ 16 < ts.length
  · have hbad : Hid (encC ts = 8) := by show _ = _; rw [encC, if_pos hl]
    rcases hl with hl | hl
    · have i0 : (ts.length : Int) < 1 := by omega
      go_enter Tryz.func155, Tryz.ntmps155
      go_wp2_with fail
      go_returns
      exact enc_bad hbad.out (by decide) rfl (Below.refl _ _)
    · have i0 : ¬ (ts.length : Int) < 1 := by omega
      have i1 : (16 : Int) < (ts.length : Int) := by omega
      go_enter Tryz.func155, Tryz.ntmps155
      go_wp2_with fail
      go_returns
      exact enc_bad hbad.out (by decide) rfl (Below.refl _ _)
  · have i0 : ¬ (ts.length : Int) < 1 := by omega
    have i1 : ¬ (16 : Int) < (ts.length : Int) := by omega
    have hck := Lib.hid (tcheck_any B _ ts w hu hB hn)
    by_cases hc0 : checkT [] ts = 0
    · have hec : Hid (encC ts = if 2048 < (bodyT ts).length then 2 else 0) := by show _ = _; rw [encC, if_neg hl, if_pos hc0]
      have hok := Lib.hid (checkT_ok ts [] hc0)
      have hnl : 1 ≤ ts.length ∧ ts.length ≤ 16 := by omega
      clear hl
      rw [hc0] at hck
      replace hc0 := Lib.hid hc0
      replace hu := Lib.hid hu
      go_enter Tryz.func155, Tryz.ntmps155
      go_wp2_with fail
      refine hck.out.mono ?_
      rintro e w1 ⟨rfl, hb1⟩
      clear hck
      dsimp only
      go_wp2_with fail
      go_loopw [5, 6, 7, 26] (fun v5 v6 v7 t wr => ∃ k : Nat, k ≤ ts.length ∧ t = .int .i64 k ∧ Hid (OwnB wr w.heap.size v5 (placesT ts (k - 1))) ∧ Hid (OwnB wr w.heap.size v6 (namesT (ts.take k))) ∧ Hid (OwnB wr w.heap.size v7 (dataT (ts.take k))) ∧ Hid (Apart v5 v6) ∧ Hid (Apart v5 v7) ∧ Hid (Apart v6 v7) ∧ Hid (Below w.heap.size w wr)) (fun _ _ _ t _ => ts.length - (intOf t).toNat)
      case atStart => exact ⟨0, by omega, rfl, World.ownsRow_nil _ _ _ 1, World.ownsRow_nil _ _ _ 1, World.ownsRow_nil _ _ _ 1, Apart.nil _, Apart.nil _, Apart.nil _, hb1⟩
      case round =>
        clear hb1
        obtain ⟨k, hk, rfl, h5, h6, h7, a56, a57, a67, hb⟩ := hrel
        obtain ⟨A7, c7, rfl, -, -⟩ := h7.out.sees.mk_
        by_cases hlt : k < ts.length
        · obtain ⟨t, ht⟩ : ∃ t, ts[k]? = some t := ⟨ts[k], List.getElem?_eq_getElem hlt⟩
          obtain ⟨b, o, A', c', rfl, hbB, x0, x1, sd⟩ := tag_at (hu.out.below (hb.out.mono hB)) k t ht
          obtain ⟨nm, da⟩ := t
          dsimp only at x0 x1 sd
          have hnm4 : nm.length = 4 := (hok.out (nm, da) (List.mem_of_getElem? ht)).1
          have hs6 : Hid (namesT (ts.take (k + 1)) = namesT (ts.take k) ++ nm) := namesT_step ts k _ ht
          have hs7 : Hid (dataT (ts.take (k + 1)) = dataT (ts.take k) ++ da) := dataT_step ts k _ ht
          have hdl : (dataT (ts.take k)).length + da.length ≤ 1048576 := by
            have h9 := dataT_take ts (k + 1)
            rw [hs7.out, List.length_append] at h9
            omega
          have hnl6 : (namesT (ts.take k)).length ≤ 64 := by
            rw [namesT_len _ (fun t ht => (hok.out t (List.mem_of_mem_take ht)).1), List.length_take]
            omega
          have hpl : (placesT ts (k - 1)).length ≤ 64 := by rw [placesT_len]; omega
          have j0 : (k : Int) < (ts.length : Int) := by omega
          have hal := balloc wr (.cells #[.string (strB nm), .slice A' da.length c'] 131)
          have hbx := Box.new wr 131 [.string (strB nm), .slice A' da.length c']
          change Box (wr.alloc (.cells #[.string (strB nm), .slice A' da.length c'] 131)) _ _ _ at hbx
          have sdW : SeesB (wr.alloc (.cells #[.string (strB nm), .slice A' da.length c'] 131)) w.heap.size (.slice A' da.length c') da := (sd.below (hal.mono (Nat.le_trans hB hb.out.size))).more hB
          have hbW := Lib.hid (bgo hb.out hal)
          have p6 : u6.ownBlock ≠ some wr.heap.size := fun e => by have := (World.ownsRow.lt h6.out _ e).2; omega
          have p7 : (Value.slice A7 (dataT (ts.take k)).length c7).ownBlock ≠ some wr.heap.size := fun e => by have := (World.ownsRow.lt h7.out _ e).2; omega
          have p5 : u5.ownBlock ≠ some wr.heap.size := fun e => by have := (World.ownsRow.lt h5.out _ e).2; omega
          have hSn : strB nm = strB nm := rfl
          replace h5 := Lib.hid (h5.out.below hal)
          replace h6 := Lib.hid (h6.out.below hal)
          replace h7 := Lib.hid (h7.out.below hal)
          have hwp : w.heap.size ≤ wr.heap.size := hb.out.size
          replace hwp := Lib.hid hwp
          clear hal hb sd hSn
          replace hnl6 := Lib.hid hnl6
          replace hpl := Lib.hid hpl
          replace hdl := Lib.hid hdl
          replace hs6 := Lib.hid hs6
          replace hs7 := Lib.hid hs7
          replace sdW := Lib.hid sdW
          replace p6 := Lib.hid p6
          replace p7 := Lib.hid p7
          replace p5 := Lib.hid p5
          replace hbx := Lib.hid hbx
          generalize hN6 : namesT (ts.take k) = N6 at *
          generalize hD7 : dataT (ts.take k) = D7 at *
          generalize hP5 : placesT ts (k - 1) = P5 at *
          replace hN6 := Lib.hid hN6
          replace hD7 := Lib.hid hD7
          replace hP5 := Lib.hid hP5
          generalize hS : strB nm = S at *
          replace hS := Lib.hid hS
          replace hnm4 := Lib.hid hnm4
          have hd7 : D7.length ≤ 1048576 := by have := hdl.out; omega
          have hd7' := Lib.hid hd7
          clear hd7
          by_cases k0 : k = 0
          · have ik : ¬ (0 : Int) < (k : Int) := by omega
            have hP' : Hid (placesT ts (k + 1 - 1) = P5) := by show _ = _; rw [← hP5.out, k0]
            replace k0 := Lib.hid k0
            go_wp2_with fail
            clear x0 x1
            generalize wr.alloc (.cells #[.string S, .slice A' da.length c'] 131) = W at *
            generalize wr.heap.size = p at *
            have hp6 := p6
            have hp7 := p7
            have y0 : W.cell? ⟨p, 0, none⟩ = some (.string S) := hbx.out.cell 0
            have y1 : W.cell? ⟨p, 1, none⟩ = some (.slice A' da.length c') := hbx.out.cell 1
            have hbd : OwnB W.drew w.heap.size u6 N6 := h6.out
            have g6 := Lib.hid hbd
            have g7 : Hid (OwnB W.drew w.heap.size (.slice A7 D7.length c7) D7) := h7.out
            have g5 : Hid (OwnB W.drew w.heap.size u5 P5) := h5.out
            have gbx : Hid (Box W.drew p 131 [.string S, .slice A' da.length c']) := hbx.out
            have gsd : Hid (SeesB W.drew w.heap.size (.slice A' da.length c') da) := sdW.out
            have gbW : Hid (Below w.heap.size w W.drew) := hbW.out.drew
            have hlen6 : N6.length + nm.length ≤ 140737488355328 := by have := hnl6.out; have := hnm4.out; omega
            have hlen7 : D7.length + da.length ≤ 140737488355328 := by have := hdl.out; omega
            have hSS := hS.out.symm
            replace hlen6 := Lib.hid hlen6
            replace hlen7 := Lib.hid hlen7
            replace hSS := Lib.hid hSS
            clear hbd h5 h6 h7 hbx sdW hbW
            go_region_held3 (fun W' : World => W'.cell? ⟨p, 0, none⟩ = some (.string S) ∧ W'.cell? ⟨p, 1, none⟩ = some (.slice A' da.length c'))
              (first | exact ⟨k2bx.out.cell 0, k2bx.out.cell 1⟩ | exact ⟨k1bx.out.cell 0, k1bx.out.cell 1⟩ | exact ⟨gbx.out.cell 0, gbx.out.cell 1⟩ | (go_keep; done))
              (first
                | (refine step_appS (by rfl) _ _ (by rfl) w.heap.size _ N6 nm (by rfl) f6.out S hSS.out (by rfl) hlen6.out ff.out.size ?_; intro v6' w2 hN hgN hmN
                   have k2bx := Lib.hid (k1bx.out.apartV hgN hp6.out)
                   have fin := enc_two g5.out g7.out g6.out a57.out a56.out a67.out.symm hgD hmD hD hgN hmN hN gbW.out.size)
                | (refine step_appM (by rfl) _ _ (by rfl) w.heap.size _ D7 (by rfl) f7.out _ _ da (by rfl) fsd.out hlen7.out ff.out.size ?_; intro v7' w2 hD hgD hmD
                   have k2bx := Lib.hid (k1bx.out.apartV hgD hp7.out)
                   have fin := enc_two g5.out g6.out g7.out a56.out a57.out a67.out hgN hmN hN hgD hmD hD gbW.out.size)
                | (refine step_appS (by rfl) _ _ (by rfl) w.heap.size _ N6 nm (by rfl) g6.out S hSS.out (by rfl) hlen6.out gbW.out.size ?_; intro v6' w1' hN hgN hmN
                   have k1bx := Lib.hid (gbx.out.apartV hgN hp6.out)
                   have f7 := Lib.hid (g7.out.apart hgN a67.out)
                   have fb := below_grown g6.out hgN gbW.out.size
                   have fsd := Lib.hid (gsd.out.below fb)
                   have ff := Lib.hid (gbW.out.trans fb))
                | (refine step_appM (by rfl) _ _ (by rfl) w.heap.size _ D7 (by rfl) g7.out _ _ da (by rfl) gsd.out hlen7.out gbW.out.size ?_; intro v7' w1' hD hgD hmD
                   have k1bx := Lib.hid (gbx.out.apartV hgD hp7.out)
                   have f6 := Lib.hid (g6.out.apart hgD a67.out.symm)
                   have fb := below_grown g7.out hgD gbW.out.size
                   have ff := Lib.hid (gbW.out.trans fb)))
            all_goals
              replace fin := Lib.hid fin
              clear y0 y1
              go_wp2_with fail
              go_roundw
              case rel =>
                refine ⟨k + 1, by omega, by go_num, ?_⟩
                rw [hP'.out, hs6.out, hs7.out]
                first
                  | (obtain ⟨r5, r6, r7, r56, r57, r67, rb⟩ := fin.out
                     exact ⟨r5, r6, r7, r56, r57, r67, gbW.out.trans rb⟩)
                  | (obtain ⟨r5, r7, r6, r57, r56, r76, rb⟩ := fin.out
                     exact ⟨r5, r6, r7, r56, r57, r76.symm, gbW.out.trans rb⟩)
              case measure => simp [intOf]; omega
          · have ik : (0 : Int) < (k : Int) := by omega
            have hpl' : P5.length + 4 ≤ 140737488355328 := by have := hpl.out; omega
            have hP' : Hid (placesT ts (k + 1 - 1) = P5 ++ putB 4 D7.length) := by
              show _ = _
              obtain ⟨m, rfl⟩ : ∃ m, k = m + 1 := ⟨k - 1, by omega⟩
              rw [← hP5.out, ← hD7.out]
              rfl
            replace k0 := Lib.hid k0
            have iw : IntKind.u64.wrap (D7.length : Int) = (D7.length : Int) := by rw [IntKind.wrap_u64]; have := hd7'.out; omega
            have hput := Lib.hid (fun W => put4_any D7.length (by have := hd7'.out; omega) W)
            replace hpl' := Lib.hid hpl'
            go_wp2_with fail
            clear x0 x1
            generalize wr.alloc (.cells #[.string S, .slice A' da.length c'] 131) = W0 at *
            generalize wr.heap.size = p at *
            refine (hput.out _).mono ?_
            rintro e w2 ⟨v2, rfl, f2, hb2⟩
            have f2s := Lib.hid (f2.sees)
            obtain ⟨A2, c2, rfl, -, -⟩ := f2.sees.mk_
            have hl4 := putB_len 4 D7.length
            replace h5 := Lib.hid (h5.out.below hb2)
            replace h6 := Lib.hid (h6.out.below hb2)
            replace h7 := Lib.hid (h7.out.below hb2)
            replace hbx := Lib.hid (hbx.out.below hb2)
            replace sdW := Lib.hid (sdW.out.below (hb2.mono hbW.out.size))
            replace hbW := Lib.hid (bgo hbW.out hb2)
            clear f2 hb2 hput iw
            replace hl4 := Lib.hid hl4
            dsimp only
            go_wp2_with (at_builtin; refine wpList_appM (by rfl) _ _ rfl w.heap.size _ P5 rfl h5.out _ _ (putB 4 D7.length) rfl f2s.out (by rw [hl4.out]; exact hpl'.out) hbW.out.size ?_)
            intro v5' W hW5 hg5 hm5
            have q6 := Lib.hid (h6.out.apart hg5 a56.out)
            have q7 := Lib.hid (h7.out.apart hg5 a57.out)
            have qbx := Lib.hid (hbx.out.apartV hg5 p5.out)
            have qb5 := below_grown h5.out hg5 hbW.out.size
            have b56 := Lib.hid (a56.out.moved hm5 h6.out)
            have b57 := Lib.hid (a57.out.moved hm5 h7.out)
            replace sdW := Lib.hid (sdW.out.below qb5)
            replace hbW := Lib.hid (hbW.out.trans qb5)
            clear h5 h6 h7 hbx a56 a57 p5 hg5 hm5 qb5 f2s hl4 hpl'
            have h5 := Lib.hid hW5
            have h6 := q6
            have h7 := q7
            have hbx := qbx
            have a56 := b56
            have a57 := b57
            clear hW5 q6 q7 qbx b56 b57
            obtain ⟨u5', rfl⟩ : ∃ u5' : Value, u5' = v5' := ⟨_, rfl⟩
            go_wp2_with fail
            have hp6 := p6
            have hp7 := p7
            have y0 : W.cell? ⟨p, 0, none⟩ = some (.string S) := hbx.out.cell 0
            have y1 : W.cell? ⟨p, 1, none⟩ = some (.slice A' da.length c') := hbx.out.cell 1
            have hbd : OwnB W.drew w.heap.size u6 N6 := h6.out
            have g6 := Lib.hid hbd
            have g7 : Hid (OwnB W.drew w.heap.size (.slice A7 D7.length c7) D7) := h7.out
            have g5 : Hid (OwnB W.drew w.heap.size u5' (P5 ++ putB 4 D7.length)) := h5.out
            have gbx : Hid (Box W.drew p 131 [.string S, .slice A' da.length c']) := hbx.out
            have gsd : Hid (SeesB W.drew w.heap.size (.slice A' da.length c') da) := sdW.out
            have gbW : Hid (Below w.heap.size w W.drew) := hbW.out.drew
            have hlen6 : N6.length + nm.length ≤ 140737488355328 := by have := hnl6.out; have := hnm4.out; omega
            have hlen7 : D7.length + da.length ≤ 140737488355328 := by have := hdl.out; omega
            have hSS := hS.out.symm
            replace hlen6 := Lib.hid hlen6
            replace hlen7 := Lib.hid hlen7
            replace hSS := Lib.hid hSS
            clear hbd h5 h6 h7 hbx sdW hbW
            go_region_held3 (fun W' : World => W'.cell? ⟨p, 0, none⟩ = some (.string S) ∧ W'.cell? ⟨p, 1, none⟩ = some (.slice A' da.length c'))
              (first | exact ⟨k2bx.out.cell 0, k2bx.out.cell 1⟩ | exact ⟨k1bx.out.cell 0, k1bx.out.cell 1⟩ | exact ⟨gbx.out.cell 0, gbx.out.cell 1⟩ | (go_keep; done))
              (first
                | (refine step_appS (by rfl) _ _ (by rfl) w.heap.size _ N6 nm (by rfl) f6.out S hSS.out (by rfl) hlen6.out ff.out.size ?_; intro v6' w2 hN hgN hmN
                   have k2bx := Lib.hid (k1bx.out.apartV hgN hp6.out)
                   have fin := enc_two g5.out g7.out g6.out a57.out a56.out a67.out.symm hgD hmD hD hgN hmN hN gbW.out.size)
                | (refine step_appM (by rfl) _ _ (by rfl) w.heap.size _ D7 (by rfl) f7.out _ _ da (by rfl) fsd.out hlen7.out ff.out.size ?_; intro v7' w2 hD hgD hmD
                   have k2bx := Lib.hid (k1bx.out.apartV hgD hp7.out)
                   have fin := enc_two g5.out g6.out g7.out a56.out a57.out a67.out hgN hmN hN hgD hmD hD gbW.out.size)
                | (refine step_appS (by rfl) _ _ (by rfl) w.heap.size _ N6 nm (by rfl) g6.out S hSS.out (by rfl) hlen6.out gbW.out.size ?_; intro v6' w1' hN hgN hmN
                   have k1bx := Lib.hid (gbx.out.apartV hgN hp6.out)
                   have f7 := Lib.hid (g7.out.apart hgN a67.out)
                   have fb := below_grown g6.out hgN gbW.out.size
                   have fsd := Lib.hid (gsd.out.below fb)
                   have ff := Lib.hid (gbW.out.trans fb))
                | (refine step_appM (by rfl) _ _ (by rfl) w.heap.size _ D7 (by rfl) g7.out _ _ da (by rfl) gsd.out hlen7.out gbW.out.size ?_; intro v7' w1' hD hgD hmD
                   have k1bx := Lib.hid (gbx.out.apartV hgD hp7.out)
                   have f6 := Lib.hid (g6.out.apart hgD a67.out.symm)
                   have fb := below_grown g7.out hgD gbW.out.size
                   have ff := Lib.hid (gbW.out.trans fb)))
            all_goals
              replace fin := Lib.hid fin
              clear y0 y1
              go_wp2_with fail
              go_roundw
              case rel =>
                refine ⟨k + 1, by omega, by go_num, ?_⟩
                rw [hP'.out, hs6.out, hs7.out]
                first
                  | (obtain ⟨r5, r6, r7, r56, r57, r67, rb⟩ := fin.out
                     exact ⟨r5, r6, r7, r56, r57, r67, gbW.out.trans rb⟩)
                  | (obtain ⟨r5, r7, r6, r57, r56, r76, rb⟩ := fin.out
                     exact ⟨r5, r6, r7, r56, r57, r76.symm, gbW.out.trans rb⟩)
              case measure => simp [intOf]; omega
        · obtain rfl : k = ts.length := by omega
          have j0 : ¬ (ts.length : Int) < (ts.length : Int) := by omega
          have iw : IntKind.u64.wrap (ts.length : Int) = (ts.length : Int) := by rw [IntKind.wrap_u64]; omega
          have hput := Lib.hid (fun W => put4_any ts.length (by omega) W)
          rw [List.take_of_length_le (Nat.le_refl _)] at h6 h7 a57 a67 ⊢
          obtain ⟨A5, c5, rfl, -, -⟩ := h5.out.sees.mk_
          obtain ⟨A6, c6, rfl, -, -⟩ := h6.out.sees.mk_
          have hbt : Hid ([putB 4 ts.length, placesT ts (ts.length - 1), namesT ts, dataT ts].flatten = bodyT ts) := by show _ = _; simp [bodyT]
          have hbl : Hid ((bodyT ts).length ≤ 1099511627776) := by
            show _ ≤ _
            rw [bodyT_len ts (fun t ht => (hok.out t ht).1) hnl.1]
            omega
          go_wp2_with fail
          refine (hput.out wr).mono ?_
          rintro e w2 ⟨v2, rfl, f2, hb2⟩
          have hl4 := putB_len 4 ts.length
          have s2 := f2.sees
          obtain ⟨A2, c2, rfl, -, -⟩ := f2.sees.mk_
          have s5 := (h5.out.sees.below hb2).more hb2.size
          have s6 := (h6.out.sees.below hb2).more hb2.size
          have s7 := (h7.out.sees.below hb2).more hb2.size
          have hbW := Lib.hid (bgo hb.out hb2)
          have hlit := seesL_lit w2 23 (show SeesAll w2 w2.heap.size [.slice A2 (putB 4 ts.length).length c2, .slice A5 (placesT ts (ts.length - 1)).length c5, .slice A6 (namesT ts).length c6, .slice A7 (dataT ts).length c7] [putB 4 ts.length, placesT ts (ts.length - 1), namesT ts, dataT ts] from ⟨s2, s5, s6, s7, trivial⟩) (by simp [maxLen])
          have hcat := concat_any _ _ _ _ hlit (Nat.le_refl _) (by rw [hbt.out]; exact hbl.out)
          rw [hbt.out] at hcat
          replace hcat := Lib.hid hcat
          have hal2 := Lib.hid (bgo hbW.out (balloc w2 (.cells #[.slice A2 (putB 4 ts.length).length c2, .slice A5 (placesT ts (ts.length - 1)).length c5, .slice A6 (namesT ts).length c6, .slice A7 (dataT ts).length c7] 23)))
          clear s2 s5 s6 s7 h5 h6 h7 a56 a57 a67 hput f2 hb2 hb hlit iw
          dsimp only
          go_wp2_with fail
          refine hcat.out.mono ?_
          rintro e w3 ⟨v3, rfl, f3, hb3⟩
          have f3' : OwnB w3 w.heap.size v3 (bodyT ts) := f3.mono hal2.out.size
          obtain ⟨A3, c3, rfl, -, -⟩ := f3.sees.mk_
          clear hcat f3
          by_cases hlong : 2048 < (bodyT ts).length
          · have hbad : Hid (encC ts = 2) := by show _ = _; rw [hec.out, if_pos hlong]
            have j1 : (2048 : Int) < ((bodyT ts).length : Int) := by omega
            dsimp only
            go_wp2_with fail
            go_returns
            exact enc_bad hbad.out (by decide) rfl (bgo hal2.out hb3)
          · have hgood : Hid (encC ts = 0) := by show _ = _; rw [hec.out, if_neg hlong]
            have j1 : ¬ (2048 : Int) < ((bodyT ts).length : Int) := by omega
            replace f3' := Lib.hid f3'
            dsimp only
            go_wp2_with fail
            go_returns
            exact enc_ok hgood.out rfl f3'.out (bgo hal2.out hb3)
    · have hbad : Hid (encC ts = checkT [] ts) := by show _ = _; rw [encC, if_neg hl, if_neg hc0]
      clear hl
      generalize checkT [] ts = E at *
      have hEb : (E == 0) = false := by rw [beq_eq_false_iff_ne]; exact hc0
      go_enter Tryz.func155, Tryz.ntmps155
      go_wp2_with fail
      refine hck.out.mono ?_
      rintro e w1 ⟨rfl, hb1⟩
      clear hck
      dsimp only
      go_wp2_with fail
      go_returns
      exact enc_bad hbad.out hc0 rfl hb1
end Go.Proofs.YtkefbjpdpcmpnaaGreat

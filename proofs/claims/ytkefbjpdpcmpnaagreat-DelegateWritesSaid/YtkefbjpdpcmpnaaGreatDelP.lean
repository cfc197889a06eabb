/- Contracts of delegate.window, signed, Check and of sectimeref30.window, text, Check. Conditions: the bytes are seen, at most 1048576 of each. -/
import Derived.Test.YtkefbjpdpcmpnaaGreatRandom
import Derived.Test.YtkefbjpdpcmpnaaGreatRTDec
import Derived.Test.YtkefbjpdpcmpnaaGreatSet8
import Derived.Lib.SlBytesConst
namespace Go.Proofs.YtkefbjpdpcmpnaaGreat
open Go Go.RowKit
set_option linter.unusedVariables false
attribute [local go_sem ↓] Go.wp_at_zero Go.wp_at_succ
def tGrant : Bs := [115, 101, 99, 116, 105, 109, 101, 32, 103, 114, 97, 110, 116]
theorem bgoD {w W0 W : World} {g : Nat} (h1 : Below g w W0) (h2 : Below W0.heap.size W0 W) (hg : g = w.heap.size) : Below w.heap.size w W := by
  subst hg
  exact bgo h1 h2
set_option maxRecDepth 100000 in
theorem dwindow_any (A : Option Addr) (n c : Nat) (A2 : Option Addr) (n2 c2 : Nat) (f t : Int) (w : World) : Calls Tryz.prog 84 #[.agg #[.slice A n c, .int .i64 f, .int .i64 t, .slice A2 n2 c2]] w fun e w' => e = .returned (.agg #[.int .i64 f, .int .i64 t]) ∧ Below w.heap.size w w' := by
  go_enter Tryz.func84, Tryz.ntmps84
  go_wp2_with fail
  refine bodyPost_ret (v := .agg #[.int .i64 f, .int .i64 t]) (by simp [results, Tryz.results84, go_sem]) rfl ⟨rfl, by go_grown⟩
set_option maxRecDepth 100000 in
theorem rwindow_any (A : Option Addr) (n c : Nat) (A2 : Option Addr) (n2 c2 : Nat) (f t : Int) (w : World) : Calls Tryz.prog 96 #[.agg #[.slice A n c, .int .i64 f, .int .i64 t, .slice A2 n2 c2]] w fun e w' => e = .returned (.agg #[.int .i64 f, .int .i64 t]) ∧ Below w.heap.size w w' := by
  go_enter Tryz.func96, Tryz.ntmps96
  go_wp2_with fail
  refine bodyPost_ret (v := .agg #[.int .i64 f, .int .i64 t]) (by simp [results, Tryz.results96, go_sem]) rfl ⟨rfl, by go_grown⟩
theorem litG_run (W : World) (G : Nat) (hG : G = W.heap.size) : (convert 23 23 (.slice (some ⟨G, 0, none⟩) 13 13)).run Tryz.prog (W.alloc (.cells #[.int .u8 115, .int .u8 101, .int .u8 99, .int .u8 116, .int .u8 105, .int .u8 109, .int .u8 101, .int .u8 32, .int .u8 103, .int .u8 114, .int .u8 97, .int .u8 110, .int .u8 116] 5)) = .ok (.slice (some ⟨G, 0, none⟩) 13 13) (W.alloc (.cells #[.int .u8 115, .int .u8 101, .int .u8 99, .int .u8 116, .int .u8 105, .int .u8 109, .int .u8 101, .int .u8 32, .int .u8 103, .int .u8 114, .int .u8 97, .int .u8 110, .int .u8 116] 5 (13, 14))) := by
  subst hG
  exact Lib.run_convert_bytes_const W 23 5 #[.int .u8 115, .int .u8 101, .int .u8 99, .int .u8 116, .int .u8 105, .int .u8 109, .int .u8 101, .int .u8 32, .int .u8 103, .int .u8 114, .int .u8 97, .int .u8 110, .int .u8 116] 13 13 Tryz.underlying23 Tryz.underlying5
theorem litG_sees (W : World) : SeesB (W.alloc (.cells #[.int .u8 115, .int .u8 101, .int .u8 99, .int .u8 116, .int .u8 105, .int .u8 109, .int .u8 101, .int .u8 32, .int .u8 103, .int .u8 114, .int .u8 97, .int .u8 110, .int .u8 116] 5 (13, 14))) (W.heap.size + 1) (.slice (some ⟨W.heap.size, 0, none⟩) 13 13) tGrant := litB_sees W tGrant (13, 14) (by simp [tGrant])
set_option maxRecDepth 100000 in
set_option maxHeartbeats 1000000 in
theorem dsigned_any (B : Nat) (u : Value) (As : Option Addr) (ns cs : Nat) (p : Bs) (f t : Int) (w : World) (hu : SeesB w B u p) (hB : B ≤ w.heap.size) (hp : p.length ≤ 1048576) :
    Calls Tryz.prog 132 #[.agg #[u, .int .i64 f, .int .i64 t, .slice As ns cs]] w (Gives (tGrant ++ p ++ spanL f t) w) := by
  obtain ⟨A, c, rfl, -, -⟩ := hu.mk_
  have hal := balloc w (.cells #[.slice A p.length c, .int .i64 f, .int .i64 t, .slice As ns cs] 37)
  have hx := Box.new w 37 [.slice A p.length c, .int .i64 f, .int .i64 t, .slice As ns cs]
  change Box (w.alloc (.cells #[.slice A p.length c, .int .i64 f, .int .i64 t, .slice As ns cs] 37)) _ _ _ at hx
  have sp := seesB_of hu hB hal
  have hsl : (spanL f t).length ≤ 16 := by unfold spanL; split <;> simp [spanB, putB_len]
  replace sp := Lib.hid sp
  clear hu
  go_enter Tryz.func132, Tryz.ntmps132
  go_wp2_with fail
  refine (dwindow_any A p.length c As ns cs f t _).mono ?_
  rintro e w1 ⟨rfl, hb1⟩
  dsimp only
  go_wp2_with fail
  refine (span_any f t _).mono ?_
  rintro e w2 ⟨v, rfl, h2, hb2⟩
  have hb02 := bgo hb1 hb2
  have hx2 := hx.below hb02
  have sp2 := seesB_of sp.out (Nat.le_refl _) hb02
  have hbw := bgo hal hb02
  have ssp := h2.sees
  obtain ⟨A2, c2, rfl, -, -⟩ := h2.sees.mk_
  generalize spanL f t = SL at *
  have hcv := litG_run w2 w2.heap.size rfl
  have hbL := balloc w2 (.cells #[.int .u8 115, .int .u8 101, .int .u8 99, .int .u8 116, .int .u8 105, .int .u8 109, .int .u8 101, .int .u8 32, .int .u8 103, .int .u8 114, .int .u8 97, .int .u8 110, .int .u8 116] 5 (13, 14))
  have x0 : (w2.alloc (.cells #[.int .u8 115, .int .u8 101, .int .u8 99, .int .u8 116, .int .u8 105, .int .u8 109, .int .u8 101, .int .u8 32, .int .u8 103, .int .u8 114, .int .u8 97, .int .u8 110, .int .u8 116] 5 (13, 14))).cell? ⟨w.heap.size, 0, none⟩ = some (.slice A p.length c) := (hx2.below hbL).cell 0
  have hLS := litG_sees w2
  have hfl : [tGrant, p, SL].flatten = tGrant ++ p ++ SL := by simp
  have htl : tGrant.length = 13 := rfl
  have hj : Calls Tryz.prog 70 #[.slice (some ⟨w2.heap.size + 1, 0, none⟩) 3 3] ((w2.alloc (.cells #[.int .u8 115, .int .u8 101, .int .u8 99, .int .u8 116, .int .u8 105, .int .u8 109, .int .u8 101, .int .u8 32, .int .u8 103, .int .u8 114, .int .u8 97, .int .u8 110, .int .u8 116] 5 (13, 14))).alloc (.cells #[.slice (some ⟨w2.heap.size, 0, none⟩) 13 13, .slice A p.length c, .slice A2 SL.length c2] 23)) fun e w' => ∃ v, e = .returned v ∧ OwnB w' w2.heap.size v [tGrant, p, SL].flatten ∧ Below w2.heap.size w2 w' :=
    join_lit (vs := [.slice (some ⟨w2.heap.size, 0, none⟩) 13 13, .slice A p.length c, .slice A2 SL.length c2]) [tGrant, p, SL] w2 (w2.alloc (.cells #[.int .u8 115, .int .u8 101, .int .u8 99, .int .u8 116, .int .u8 105, .int .u8 109, .int .u8 101, .int .u8 32, .int .u8 103, .int .u8 114, .int .u8 97, .int .u8 110, .int .u8 116] 5 (13, 14))) (w2.heap.size + 1) (World.size_alloc _ _) hbL ⟨hLS.more (by rw [World.size_alloc]; exact Nat.le_refl _), seesB_of sp2 (Nat.le_refl _) hbL, seesB_of ssp (Nat.le_refl _) hbL, trivial⟩ (by simp) (by rw [hfl, List.length_append, List.length_append, htl]; omega)
  rw [hfl] at hj
  generalize hM : tGrant ++ p ++ SL = M at *
  replace hM := Lib.hid hM
  replace hj := Lib.hid hj
  replace hbw := Lib.hid hbw
  clear sp sp2 ssp hLS hbL hx hx2 hb1 hb2 hb02 hal h2
  dsimp only
  go_wp2_with fail
  refine hj.out.mono ?_
  rintro e w3 ⟨v3, rfl, h3, hb3⟩
  dsimp only
  go_wp2_with fail
  go_ret
  exact ⟨v3, rfl, h3.mono hbw.out.size, bgo hbw.out hb3⟩
set_option maxRecDepth 100000 in
set_option maxHeartbeats 1000000 in
theorem rtext_any (B : Nat) (u : Value) (p : Bs) (f t : Int) (w : World) (hu : SeesB w B u p) (hB : B ≤ w.heap.size) (hp : p.length ≤ 1048576) :
    Calls Tryz.prog 152 #[u, .int .i64 f, .int .i64 t] w (Gives (tGrant ++ p ++ spanB f t) w) := by
  obtain ⟨A, c, rfl, -, -⟩ := hu.mk_
  have hcv := litG_run w w.heap.size rfl
  have hbL := balloc w (.cells #[.int .u8 115, .int .u8 101, .int .u8 99, .int .u8 116, .int .u8 105, .int .u8 109, .int .u8 101, .int .u8 32, .int .u8 103, .int .u8 114, .int .u8 97, .int .u8 110, .int .u8 116] 5 (13, 14))
  have hLS := litG_sees w
  have sp := seesB_of hu hB hbL
  have hsl : (spanB f t).length ≤ 16 := by simp [spanB, putB_len]
  have hLS2 := Lib.hid (hLS.more (show w.heap.size + 1 ≤ (w.alloc (.cells #[.int .u8 115, .int .u8 101, .int .u8 99, .int .u8 116, .int .u8 105, .int .u8 109, .int .u8 101, .int .u8 32, .int .u8 103, .int .u8 114, .int .u8 97, .int .u8 110, .int .u8 116] 5 (13, 14))).heap.size by rw [World.size_alloc]; exact Nat.le_refl _))
  replace sp := Lib.hid sp
  clear hu hLS
  go_enter Tryz.func152, Tryz.ntmps152
  go_wp2_with fail
  refine (rspanbytes_any f t _).mono ?_
  rintro e w1 ⟨v1, rfl, h1, hb1⟩
  have ssp := h1.sees
  obtain ⟨A1, c1, rfl, -, -⟩ := h1.sees.mk_
  have sp1 := seesB_of sp.out (Nat.le_refl _) hb1
  have sl1 := seesB_of hLS2.out (Nat.le_refl _) hb1
  have hbw := bgo hbL hb1
  generalize hG : w.heap.size = G at sl1 ⊢
  replace hG := Lib.hid hG
  generalize spanB f t = SL at *
  have hfl : [tGrant, p, SL].flatten = tGrant ++ p ++ SL := by simp
  have htl : tGrant.length = 13 := rfl
  have hj := rjoin_lit (vs := [.slice (some ⟨G, 0, none⟩) 13 13, .slice A p.length c, .slice A1 SL.length c1]) [tGrant, p, SL] w1 w1 w1.heap.size rfl (Below.refl _ _) ⟨sl1, sp1, ssp, trivial⟩ (by simp) (by rw [hfl, List.length_append, List.length_append, htl]; omega)
  rw [hfl] at hj
  generalize hM : tGrant ++ p ++ SL = M at *
  replace hM := Lib.hid hM
  replace hj := Lib.hid hj
  replace hbw := Lib.hid hbw
  clear sp sp1 sl1 ssp hbL hLS2 hb1 h1 hcv
  dsimp only
  go_wp2_with fail
  refine hj.out.mono ?_
  rintro e w3 ⟨v3, rfl, h3, hb3⟩
  dsimp only
  go_wp2_with fail
  go_ret
  exact ⟨v3, rfl, h3.mono hbw.out.size, bgo hbw.out hb3⟩
def dcheckC (l p : Bs) (f t : Int) (s : Bs) : Int := if l.length = 32 ∧ p.length = 32 then (if vS f t then (if verifyG l (tGrant ++ p ++ spanB f t) s then 0 else 26) else 3) else 5
def DChkP (l p : Bs) (f t : Int) (s : Bs) (w : World) (e : Ending) (w' : World) : Prop := e = .returned (.int .i64 (dcheckC l p f t s)) ∧ Below w.heap.size w w'
theorem chk_ret {l p s : Bs} {f t c : Int} (h : dcheckC l p f t s = c) {w w' : World} {e : Ending} (he : e = .returned (.int .i64 c)) (hb : Below w.heap.size w w') : DChkP l p f t s w e w' := ⟨by rw [h]; exact he, hb⟩
set_option maxRecDepth 100000 in
set_option maxHeartbeats 2000000 in
theorem dcheck_any (B : Nat) (u u2 u3 : Value) (l p s : Bs) (f t : Int) (w : World) (hu : SeesB w B u l) (hu2 : SeesB w B u2 p) (hu3 : SeesB w B u3 s) (hB : B ≤ w.heap.size) (hs : s.length ≤ 1048576) :
    Calls Tryz.prog 81 #[u, .agg #[u2, .int .i64 f, .int .i64 t, u3]] w (DChkP l p f t s w) := by
  obtain ⟨Al, cl, rfl, -, -⟩ := hu.mk_
  obtain ⟨Ap, cp, rfl, -, -⟩ := hu2.mk_
  obtain ⟨As, cs, rfl, -, -⟩ := hu3.mk_
  have hal := balloc w (.cells #[.slice Ap p.length cp, .int .i64 f, .int .i64 t, .slice As s.length cs] 37)
  have hx := Box.new w 37 [.slice Ap p.length cp, .int .i64 f, .int .i64 t, .slice As s.length cs]
  change Box (w.alloc (.cells #[.slice Ap p.length cp, .int .i64 f, .int .i64 t, .slice As s.length cs] 37)) _ _ _ at hx
  have sl := seesB_of hu hB hal
  have sp := seesB_of hu2 hB hal
  have ss := seesB_of hu3 hB hal
  have hd : Hid (dcheckC l p f t s = if l.length = 32 ∧ p.length = 32 then (if vS f t then (if verifyG l (tGrant ++ p ++ spanB f t) s then 0 else 26) else 3) else 5) := rfl
  have bx := fun j => hx.cell j
  have y0 := hx.cell 0
  have y1 := hx.cell 1
  have y2 := hx.cell 2
  have y3 := hx.cell 3
  simp only [List.getElem?_cons_zero, List.getElem?_cons_succ] at y0 y1 y2 y3
  clear hu hu2 hu3 bx
  by_cases hl : l.length = 32
  · have il : ((l.length : Int) != 32) = false := by simp; omega
    by_cases hp : p.length = 32
    · have ip : ((p.length : Int) != 32) = false := by simp; omega
      replace y0 := Lib.hid y0
      have hwn := Lib.hid (fun W => dwindow_any Ap p.length cp As s.length cs f t W)
      have hva := Lib.hid (fun W => valid_any f t W)
      have hm : (tGrant ++ p ++ spanB f t).length ≤ 65535 := by rw [List.length_append, List.length_append]; simp [tGrant, spanB, putB_len]; omega
      replace hal := Lib.hid hal
      cases hv : vS f t with
      | false =>
        have hC : Hid (dcheckC l p f t s = 3) := by show _ = _; rw [hd.out, if_pos ⟨hl, hp⟩, hv]; rfl
        rw [hv] at hva
        replace hl := Lib.hid hl
        replace hp := Lib.hid hp
        replace hv := Lib.hid hv
        replace hm := Lib.hid hm
        clear sl sp ss hd
        go_enter Tryz.func81, Tryz.ntmps81
        go_upto_region 1 with (fail)
        generalize w.alloc (.cells #[.slice Ap p.length cp, .int .i64 f, .int .i64 t, .slice As s.length cs] 37) = W0 at *
        generalize hgg : w.heap.size = g at hx y0 y1 y2 y3 hal ⊢
        replace hgg := Lib.hid hgg
        have x0 := y0.out
        go_wp2_with fail
        refine (hwn.out _).mono ?_
        rintro e w1 ⟨rfl, hb1⟩
        dsimp only
        go_wp2_with fail
        refine (hva.out _).mono ?_
        rintro e w2 ⟨rfl, hb2⟩
        dsimp only
        go_wp2_with fail
        go_returns
        exact chk_ret hC.out rfl (bgoD hal.out (bgo hb1 hb2) hgg.out.symm)
      | true =>
        have hC : Hid (dcheckC l p f t s = if verifyG l (tGrant ++ p ++ spanB f t) s then 0 else 26) := by show _ = _; rw [hd.out, if_pos ⟨hl, hp⟩, hv]; rfl
        rw [hv] at hva
        have hsg := fun (W : World) (hW : Below (w.alloc (.cells #[.slice Ap p.length cp, .int .i64 f, .int .i64 t, .slice As s.length cs] 37)).heap.size (w.alloc (.cells #[.slice Ap p.length cp, .int .i64 f, .int .i64 t, .slice As s.length cs] 37)) W) => (show Calls Tryz.prog 132 #[.agg #[.slice Ap p.length cp, .int .i64 f, .int .i64 t, .slice As s.length cs]] W (Gives (tGrant ++ p ++ spanB f t) W) from by
        have h9 := dsigned_any W.heap.size (.slice Ap p.length cp) As s.length cs p f t W (seesB_of sp (Nat.le_refl _) hW) (Nat.le_refl _) (by omega)
        rw [show spanL f t = spanB f t by rw [spanL, if_pos hv]] at h9
        exact h9)
        have hvr := fun (W : World) (v : Value) (hW : Below (w.alloc (.cells #[.slice Ap p.length cp, .int .i64 f, .int .i64 t, .slice As s.length cs] 37)).heap.size (w.alloc (.cells #[.slice Ap p.length cp, .int .i64 f, .int .i64 t, .slice As s.length cs] 37)) W) (hv : SeesB W W.heap.size v (tGrant ++ p ++ spanB f t)) => verify_any W.heap.size (.slice Al l.length cl) v (.slice As s.length cs) l (tGrant ++ p ++ spanB f t) s W (seesB_of sl (Nat.le_refl _) hW) hv (seesB_of ss (Nat.le_refl _) hW) (Nat.le_refl _) (by omega) hs
        generalize verifyG l (tGrant ++ p ++ spanB f t) s = V at *
        generalize tGrant ++ p ++ spanB f t = M at *
        replace hsg := Lib.hid hsg
        replace hvr := Lib.hid hvr
        replace hl := Lib.hid hl
        replace hp := Lib.hid hp
        replace hv := Lib.hid hv
        replace hm := Lib.hid hm
        clear sl sp ss hd
        go_enter Tryz.func81, Tryz.ntmps81
        go_upto_region 1 with (fail)
        generalize w.alloc (.cells #[.slice Ap p.length cp, .int .i64 f, .int .i64 t, .slice As s.length cs] 37) = W0 at *
        generalize hgg : w.heap.size = g at hx y0 y1 y2 y3 hal ⊢
        replace hgg := Lib.hid hgg
        have x0 := y0.out
        go_wp2_with fail
        refine (hwn.out _).mono ?_
        rintro e w1 ⟨rfl, hb1⟩
        dsimp only
        go_wp2_with fail
        refine (hva.out _).mono ?_
        rintro e w2 ⟨rfl, hb2⟩
        have hb02 := bgo hb1 hb2
        have hx2 := hx.below hb02
        clear x0 y0 y1 y2 y3 hb1 hb2 hwn hva
        have K : Hid (∀ W : World, Below w2.heap.size w2 W → W.cell? ⟨g, 0, none⟩ = some (.slice Ap p.length cp) ∧ W.cell? ⟨g, 1, none⟩ = some (.int .i64 f) ∧ W.cell? ⟨g, 2, none⟩ = some (.int .i64 t) ∧ W.cell? ⟨g, 3, none⟩ = some (.slice As s.length cs)) := fun W hW => ⟨(hx2.below hW).cell 0, (hx2.below hW).cell 1, (hx2.below hW).cell 2, (hx2.below hW).cell 3⟩
        obtain ⟨x0, x1, x2, x3⟩ := K.out w2 (Below.refl _ _)
        have hsg2 := Lib.hid (hsg.out w2.drew (hb02.drew))
        replace hb02 := Lib.hid hb02
        replace hx := Lib.hid hx
        replace hx2 := Lib.hid hx2
        clear hsg
        dsimp only
        go_wp2_with fail
        go_region_held3 (fun W' : World => W'.cell? ⟨g, 0, none⟩ = some (.slice Ap p.length cp) ∧ W'.cell? ⟨g, 1, none⟩ = some (.int .i64 f) ∧ W'.cell? ⟨g, 2, none⟩ = some (.int .i64 t) ∧ W'.cell? ⟨g, 3, none⟩ = some (.slice As s.length cs))
          (first | (with_reducible exact K.out _ hb4) | (with_reducible exact K.out _ hb3) | exact K.out _ (by (repeat (first | exact Below.refl _ _ | (refine bgo ?_ (balloc _ _)) | (refine bgo ?_ (bdrew _)) | (refine bgo ?_ (by assumption))))) | (go_keep; done))
          (first
            | (go_at_call 69; (with_reducible refine (hvr.out _ _ (bgo hb02.out hb3) h3.sees).mono ?_); rintro e w4 ⟨rfl, hb4⟩; replace hb4 := bgo hb3 hb4)
            | (go_at_call 132; (with_reducible refine hsg2.out.mono ?_); rintro e w3 ⟨v3, rfl, h3, hb3⟩; replace hb3 := bgo (bdrew w2) hb3; obtain ⟨A3, c3, rfl, -, -⟩ := h3.sees.mk_))
        all_goals
          have hfin := bgo hb02.out hb4
          clear x0 x1 x2 x3 K hsg2 hvr h3 hb3 hb4
          cases V with
          | false =>
            go_wp2_with fail
            go_returns
            exact chk_ret (by rw [hC.out]; rfl) rfl (bgoD hal.out hfin hgg.out.symm)
          | true =>
            go_wp2_with fail
            go_returns
            exact chk_ret (by rw [hC.out]; rfl) rfl (bgoD hal.out hfin hgg.out.symm)
    · have ip : ((p.length : Int) != 32) = true := by simp; omega
      have hC : Hid (dcheckC l p f t s = 5) := by show _ = _; rw [hd.out, if_neg (by omega)]
      clear sl sp ss hd hp y1 y2 y3
      replace hl := Lib.hid hl
      go_enter Tryz.func81, Tryz.ntmps81
      go_wp2_with fail
      go_returns
      exact chk_ret hC.out rfl hal
  · have il : ((l.length : Int) != 32) = true := by simp; omega
    have hC : Hid (dcheckC l p f t s = 5) := by show _ = _; rw [hd.out, if_neg (by omega)]
    clear sl sp ss hd y0 y1 y2 y3 hl
    go_enter Tryz.func81, Tryz.ntmps81
    go_wp2_with fail
    go_returns
    exact chk_ret hC.out rfl hal
set_option maxRecDepth 100000 in
set_option maxHeartbeats 2000000 in
theorem rdcheck_any (B : Nat) (u u2 u3 : Value) (l p s : Bs) (f t : Int) (w : World) (hu : SeesB w B u l) (hu2 : SeesB w B u2 p) (hu3 : SeesB w B u3 s) (hB : B ≤ w.heap.size) (hs : s.length ≤ 1048576) :
    Calls Tryz.prog 114 #[u, .agg #[u2, .int .i64 f, .int .i64 t, u3]] w (DChkP l p f t s w) := by
  obtain ⟨Al, cl, rfl, -, -⟩ := hu.mk_
  obtain ⟨Ap, cp, rfl, -, -⟩ := hu2.mk_
  obtain ⟨As, cs, rfl, -, -⟩ := hu3.mk_
  have hal := balloc w (.cells #[.slice Ap p.length cp, .int .i64 f, .int .i64 t, .slice As s.length cs] 37)
  have hx := Box.new w 37 [.slice Ap p.length cp, .int .i64 f, .int .i64 t, .slice As s.length cs]
  change Box (w.alloc (.cells #[.slice Ap p.length cp, .int .i64 f, .int .i64 t, .slice As s.length cs] 37)) _ _ _ at hx
  have sl := seesB_of hu hB hal
  have sp := seesB_of hu2 hB hal
  have ss := seesB_of hu3 hB hal
  have hd : Hid (dcheckC l p f t s = if l.length = 32 ∧ p.length = 32 then (if vS f t then (if verifyG l (tGrant ++ p ++ spanB f t) s then 0 else 26) else 3) else 5) := rfl
  have bx := fun j => hx.cell j
  have y0 := hx.cell 0
  have y1 := hx.cell 1
  have y2 := hx.cell 2
  have y3 := hx.cell 3
  simp only [List.getElem?_cons_zero, List.getElem?_cons_succ] at y0 y1 y2 y3
  clear hu hu2 hu3 bx
  by_cases hl : l.length = 32
  · have il : ((l.length : Int) != 32) = false := by simp; omega
    by_cases hp : p.length = 32
    · have ip : ((p.length : Int) != 32) = false := by simp; omega
      replace y0 := Lib.hid y0
      have hwn := Lib.hid (fun W => rwindow_any Ap p.length cp As s.length cs f t W)
      have hva := Lib.hid (fun W => rvalid_any f t W)
      have hm : (tGrant ++ p ++ spanB f t).length ≤ 65535 := by rw [List.length_append, List.length_append]; simp [tGrant, spanB, putB_len]; omega
      replace hal := Lib.hid hal
      cases hv : vS f t with
      | false =>
        have hC : Hid (dcheckC l p f t s = 3) := by show _ = _; rw [hd.out, if_pos ⟨hl, hp⟩, hv]; rfl
        rw [hv] at hva
        replace hl := Lib.hid hl
        replace hp := Lib.hid hp
        replace hv := Lib.hid hv
        replace hm := Lib.hid hm
        clear sl sp ss hd
        go_enter Tryz.func114, Tryz.ntmps114
        go_upto_region 1 with (fail)
        generalize w.alloc (.cells #[.slice Ap p.length cp, .int .i64 f, .int .i64 t, .slice As s.length cs] 37) = W0 at *
        generalize hgg : w.heap.size = g at hx y0 y1 y2 y3 hal ⊢
        replace hgg := Lib.hid hgg
        have x0 := y0.out
        go_wp2_with fail
        refine (hwn.out _).mono ?_
        rintro e w1 ⟨rfl, hb1⟩
        dsimp only
        go_wp2_with fail
        refine (hva.out _).mono ?_
        rintro e w2 ⟨rfl, hb2⟩
        dsimp only
        go_wp2_with fail
        go_returns
        exact chk_ret hC.out rfl (bgoD hal.out (bgo hb1 hb2) hgg.out.symm)
      | true =>
        have hC : Hid (dcheckC l p f t s = if verifyG l (tGrant ++ p ++ spanB f t) s then 0 else 26) := by show _ = _; rw [hd.out, if_pos ⟨hl, hp⟩, hv]; rfl
        rw [hv] at hva
        have hsg := fun (W : World) (hW : Below (w.alloc (.cells #[.slice Ap p.length cp, .int .i64 f, .int .i64 t, .slice As s.length cs] 37)).heap.size (w.alloc (.cells #[.slice Ap p.length cp, .int .i64 f, .int .i64 t, .slice As s.length cs] 37)) W) => (show Calls Tryz.prog 152 #[.slice Ap p.length cp, .int .i64 f, .int .i64 t] W (Gives (tGrant ++ p ++ spanB f t) W) from rtext_any W.heap.size _ p f t W (seesB_of sp (Nat.le_refl _) hW) (Nat.le_refl _) (by omega))
        have hvr := fun (W : World) (v : Value) (hW : Below (w.alloc (.cells #[.slice Ap p.length cp, .int .i64 f, .int .i64 t, .slice As s.length cs] 37)).heap.size (w.alloc (.cells #[.slice Ap p.length cp, .int .i64 f, .int .i64 t, .slice As s.length cs] 37)) W) (hv : SeesB W W.heap.size v (tGrant ++ p ++ spanB f t)) => rverify_any W.heap.size (.slice Al l.length cl) v (.slice As s.length cs) l (tGrant ++ p ++ spanB f t) s W (seesB_of sl (Nat.le_refl _) hW) hv (seesB_of ss (Nat.le_refl _) hW) (Nat.le_refl _) (by omega) hs
        generalize verifyG l (tGrant ++ p ++ spanB f t) s = V at *
        generalize tGrant ++ p ++ spanB f t = M at *
        replace hsg := Lib.hid hsg
        replace hvr := Lib.hid hvr
        replace hl := Lib.hid hl
        replace hp := Lib.hid hp
        replace hv := Lib.hid hv
        replace hm := Lib.hid hm
        clear sl sp ss hd
        go_enter Tryz.func114, Tryz.ntmps114
        go_upto_region 1 with (fail)
        generalize w.alloc (.cells #[.slice Ap p.length cp, .int .i64 f, .int .i64 t, .slice As s.length cs] 37) = W0 at *
        generalize hgg : w.heap.size = g at hx y0 y1 y2 y3 hal ⊢
        replace hgg := Lib.hid hgg
        have x0 := y0.out
        go_wp2_with fail
        refine (hwn.out _).mono ?_
        rintro e w1 ⟨rfl, hb1⟩
        dsimp only
        go_wp2_with fail
        refine (hva.out _).mono ?_
        rintro e w2 ⟨rfl, hb2⟩
        have hb02 := bgo hb1 hb2
        have hx2 := hx.below hb02
        clear x0 y0 y1 y2 y3 hb1 hb2 hwn hva
        have K : Hid (∀ W : World, Below w2.heap.size w2 W → W.cell? ⟨g, 0, none⟩ = some (.slice Ap p.length cp) ∧ W.cell? ⟨g, 1, none⟩ = some (.int .i64 f) ∧ W.cell? ⟨g, 2, none⟩ = some (.int .i64 t) ∧ W.cell? ⟨g, 3, none⟩ = some (.slice As s.length cs)) := fun W hW => ⟨(hx2.below hW).cell 0, (hx2.below hW).cell 1, (hx2.below hW).cell 2, (hx2.below hW).cell 3⟩
        obtain ⟨x0, x1, x2, x3⟩ := K.out w2 (Below.refl _ _)
        have hsg2 := Lib.hid (hsg.out w2.drew (hb02.drew))
        replace hb02 := Lib.hid hb02
        replace hx := Lib.hid hx
        replace hx2 := Lib.hid hx2
        clear hsg
        dsimp only
        go_wp2_with fail
        go_region_held3 (fun W' : World => W'.cell? ⟨g, 0, none⟩ = some (.slice Ap p.length cp) ∧ W'.cell? ⟨g, 1, none⟩ = some (.int .i64 f) ∧ W'.cell? ⟨g, 2, none⟩ = some (.int .i64 t) ∧ W'.cell? ⟨g, 3, none⟩ = some (.slice As s.length cs))
          (first | (with_reducible exact K.out _ hb4) | (with_reducible exact K.out _ hb3) | exact K.out _ (by (repeat (first | exact Below.refl _ _ | (refine bgo ?_ (balloc _ _)) | (refine bgo ?_ (bdrew _)) | (refine bgo ?_ (by assumption))))) | (go_keep; done))
          (first
            | (go_at_call 76; (with_reducible refine (hvr.out _ _ (bgo hb02.out hb3) h3.sees).mono ?_); rintro e w4 ⟨rfl, hb4⟩; replace hb4 := bgo hb3 hb4)
            | (go_at_call 152; (with_reducible refine hsg2.out.mono ?_); rintro e w3 ⟨v3, rfl, h3, hb3⟩; replace hb3 := bgo (bdrew w2) hb3; obtain ⟨A3, c3, rfl, -, -⟩ := h3.sees.mk_))
        all_goals
          have hfin := bgo hb02.out hb4
          clear x0 x1 x2 x3 K hsg2 hvr h3 hb3 hb4
          cases V with
          | false =>
            go_wp2_with fail
            go_returns
            exact chk_ret (by rw [hC.out]; rfl) rfl (bgoD hal.out hfin hgg.out.symm)
          | true =>
            go_wp2_with fail
            go_returns
            exact chk_ret (by rw [hC.out]; rfl) rfl (bgoD hal.out hfin hgg.out.symm)
    · have ip : ((p.length : Int) != 32) = true := by simp; omega
      have hC : Hid (dcheckC l p f t s = 5) := by show _ = _; rw [hd.out, if_neg (by omega)]
      clear sl sp ss hd hp y1 y2 y3
      replace hl := Lib.hid hl
      go_enter Tryz.func114, Tryz.ntmps114
      go_wp2_with fail
      go_returns
      exact chk_ret hC.out rfl hal
  · have il : ((l.length : Int) != 32) = true := by simp; omega
    have hC : Hid (dcheckC l p f t s = 5) := by show _ = _; rw [hd.out, if_neg (by omega)]
    clear sl sp ss hd y0 y1 y2 y3 hl
    go_enter Tryz.func114, Tryz.ntmps114
    go_wp2_with fail
    go_returns
    exact chk_ret hC.out rfl hal
end Go.Proofs.YtkefbjpdpcmpnaaGreat

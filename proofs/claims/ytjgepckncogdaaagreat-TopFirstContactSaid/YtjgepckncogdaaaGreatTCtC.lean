/- What a law leans on beyond the base: contracts, plain functions, walks. Conditions: those of each theorem. -/
import Derived.Test.YtjgepckncogdaaaGreatQCtC
import Derived.Test.YtjgepckncogdaaaGreatTC1
set_option linter.unusedVariables false
set_option linter.unusedSimpArgs false
namespace Go.Proofs.YtjgepckncogdaaaGreat
open Go Go.RowKit
set_option linter.unusedVariables false
set_option linter.unusedSimpArgs false
attribute [local go_sem ↓] Go.wp_at_zero Go.wp_at_succ
set_option maxRecDepth 100000 in
set_option maxHeartbeats 4000000 in
theorem crcheck_any (B : Nat) (u u2 u3 : Value) (r n p s : Bs) (f t : Int) (w : World) (hu : SeesB w B u r) (hu2 : SeesB w B u2 p) (hu3 : SeesB w B u3 s) (hB : B ≤ w.heap.size) (hs : s.length ≤ 1048576) :
 Calls Tryz.prog 54 #[u, .agg #[.string (strB n), u2, .int .i64 f, .int .i64 t, u3]] w (CChkP r (n, p, f, t, s) w) := by
 obtain ⟨Al, cl, rfl, -, -⟩ := hu.mk_
 obtain ⟨Ap, cp, rfl, -, -⟩ := hu2.mk_
 obtain ⟨As, cs, rfl, -, -⟩ := hu3.mk_
 have hfo := fun W => crformed_any n Ap p.length cp As s.length cs f t W
 have hsg0 := fun (W : World) (hW : SeesB W W.heap.size (.slice Ap p.length cp) p) (h1 : n.length ≤ 1048576) (h2 : p.length ≤ 1048576) => crtext_any W.heap.size (.slice Ap p.length cp) n p f t As s.length cs W hW (Nat.le_refl _) h1 h2
 generalize strB n = S0 at *
 have hal := balloc w (.cells #[.string S0, .slice Ap p.length cp, .int .i64 f, .int .i64 t, .slice As s.length cs] 70)
 have hx := Box.new w 70 [.string S0, .slice Ap p.length cp, .int .i64 f, .int .i64 t, .slice As s.length cs]
 change Box (w.alloc (.cells #[.string S0, .slice Ap p.length cp, .int .i64 f, .int .i64 t, .slice As s.length cs] 70)) _ _ _ at hx
 have sl := seesB_of hu hB hal
 have sp := seesB_of hu2 hB hal
 have ss := seesB_of hu3 hB hal
 replace hal := Lib.hid hal
 clear hu hu2 hu3
 cases hF : formB n p.length f t with
 | false =>
   rw [hF] at hfo
   have hC := Lib.hid (cchk_form (r := r) (s := s) hF)
   replace hF := Lib.hid hF
   replace hfo := Lib.hid hfo
   clear hsg0 sl sp ss
   go_enter Tryz.func54, Tryz.ntmps54
   go_upto_region 1 with (fail)
   generalize w.alloc (.cells #[.string S0, .slice Ap p.length cp, .int .i64 f, .int .i64 t, .slice As s.length cs] 70) = W0 at *
   generalize hgg : w.heap.size = g at hx ⊢
   replace hgg := Lib.hid hgg
   obtain ⟨y0, y1, y2, y3, y4⟩ := box5_cells hx
   go_wp2_with fail
   refine (hfo.out _).mono ?_
   rintro e w1 ⟨rfl, hb1⟩
   dsimp only
   go_wp2_with fail
   go_returns
   exact cchk_ret hC.out rfl (bgo hal.out hb1)
 | true =>
   rw [hF] at hfo
   obtain ⟨f1, f2, f3, f4⟩ := form_parts hF
   have hC := Lib.hid (cchk_sig (r := r) (s := s) hF)
   have hm := ctext_len n p f t f2 f3
   replace hF := Lib.hid hF
   replace hfo := Lib.hid hfo
   have hsg := fun (W : World) (hW : Below (w.alloc (.cells #[.string S0, .slice Ap p.length cp, .int .i64 f, .int .i64 t, .slice As s.length cs] 70)).heap.size (w.alloc (.cells #[.string S0, .slice Ap p.length cp, .int .i64 f, .int .i64 t, .slice As s.length cs] 70)) W) => (show Calls Tryz.prog 115 #[.agg #[.string S0, .slice Ap p.length cp, .int .i64 f, .int .i64 t, .slice As s.length cs]] W (Gives (ctextB n p f t) W) from by
    have h9 := hsg0 W (seesB_of sp (Nat.le_refl _) hW) (by omega) (by omega)
    skip
    exact h9)
   have hvr := fun (W : World) (v : Value) (hW : Below (w.alloc (.cells #[.string S0, .slice Ap p.length cp, .int .i64 f, .int .i64 t, .slice As s.length cs] 70)).heap.size (w.alloc (.cells #[.string S0, .slice Ap p.length cp, .int .i64 f, .int .i64 t, .slice As s.length cs] 70)) W) (hv : SeesB W W.heap.size v (ctextB n p f t)) => rverify_any W.heap.size (.slice Al r.length cl) v (.slice As s.length cs) r (ctextB n p f t) s W (seesB_of sl (Nat.le_refl _) hW) hv (seesB_of ss (Nat.le_refl _) hW) (Nat.le_refl _) (by omega) hs
   generalize verifyG r (ctextB n p f t) s = V at *
   generalize ctextB n p f t = M at *
   replace hsg := Lib.hid hsg
   replace hvr := Lib.hid hvr
   replace hm := Lib.hid hm
   clear hsg0 sl sp ss f1 f2 f3 f4
   go_enter Tryz.func54, Tryz.ntmps54
   go_upto_region 1 with (fail)
   generalize w.alloc (.cells #[.string S0, .slice Ap p.length cp, .int .i64 f, .int .i64 t, .slice As s.length cs] 70) = W0 at *
   generalize hgg : w.heap.size = g at hx ⊢
   replace hgg := Lib.hid hgg
   obtain ⟨y0, y1, y2, y3, y4⟩ := box5_cells hx
   go_wp2_with fail
   refine (hfo.out _).mono ?_
   rintro e w2 ⟨rfl, hb02⟩
   have hx2 := hx.below hb02
   clear y0 y1 y2 y3 y4 hfo
   have K : Hid (∀ W : World, Below w2.heap.size w2 W → W.cell? ⟨g, 0, none⟩ = some (.string S0) ∧ W.cell? ⟨g, 1, none⟩ = some (.slice Ap p.length cp) ∧ W.cell? ⟨g, 2, none⟩ = some (.int .i64 f) ∧ W.cell? ⟨g, 3, none⟩ = some (.int .i64 t) ∧ W.cell? ⟨g, 4, none⟩ = some (.slice As s.length cs)) := fun W hW => box5_cells (hx2.below hW)
   obtain ⟨x0, x1, x2, x3, x4⟩ := K.out w2 (Below.refl _ _)
   have hsg2 := Lib.hid (hsg.out w2.drew (hb02.drew))
   replace hb02 := Lib.hid hb02
   replace hx := Lib.hid hx
   replace hx2 := Lib.hid hx2
   clear hsg
   dsimp only
   go_wp2_with fail
   go_region_held3 (fun W' : World => W'.cell? ⟨g, 0, none⟩ = some (.string S0) ∧ W'.cell? ⟨g, 1, none⟩ = some (.slice Ap p.length cp) ∧ W'.cell? ⟨g, 2, none⟩ = some (.int .i64 f) ∧ W'.cell? ⟨g, 3, none⟩ = some (.int .i64 t) ∧ W'.cell? ⟨g, 4, none⟩ = some (.slice As s.length cs))
    (first | (with_reducible exact K.out _ hb4) | (with_reducible exact K.out _ hb3) | exact K.out _ (by (repeat (first | exact Below.refl _ _ | (refine bgo ?_ (balloc _ _)) | (refine bgo ?_ (bdrew _)) | (refine bgo ?_ (by assumption))))) | (go_keep; done))
    (first
     | (go_at_call 116; (with_reducible refine (hvr.out _ _ (bgo hb02.out hb3) h3.sees).mono ?_); rintro e w4 ⟨rfl, hb4⟩; replace hb4 := bgo hb3 hb4)
     | (go_at_call 115; (with_reducible refine hsg2.out.mono ?_); rintro e w3 ⟨v3, rfl, h3, hb3⟩; replace hb3 := bgo (bdrew w2) hb3; obtain ⟨A3, c3, rfl, -, -⟩ := h3.sees.mk_))
   all_goals
    have hfin := bgo hb02.out hb4
    clear x0 x1 x2 x3 x4 K hsg2 hvr h3 hb3 hb4
    cases V with
    | false =>
      go_wp2_with fail
      go_returns
      exact cchk_ret (by rw [hC.out]; rfl) rfl (bgo hal.out hfin)
    | true =>
      go_wp2_with fail
      go_returns
      exact cchk_ret (by rw [hC.out]; rfl) rfl (bgo hal.out hfin)
end Go.Proofs.YtjgepckncogdaaaGreat

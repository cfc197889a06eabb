/- What a law leans on beyond the base: contracts, plain functions, walks. Conditions: those of each theorem. -/
import Derived.Test.YtjgepckncogdaaaGreatTCtY
set_option linter.unusedVariables false
set_option linter.unusedSimpArgs false
namespace Go.Proofs.YtjgepckncogdaaaGreat
open Go Go.RowKit
set_option linter.unusedVariables false
set_option linter.unusedSimpArgs false
attribute [local go_sem ↓] Go.wp_at_zero Go.wp_at_succ
set_option maxRecDepth 100000 in
set_option maxHeartbeats 4000000 in
theorem cracc_any (B : Nat) (u u2 : Value) (r : Bs) (cs : List CertG) (lo hi : Int) (w : World) (hu : SeesB w B u r) (hu2 : SeesR w B u2 5 cs.length (certS cs)) (hB : B ≤ w.heap.size) (hl : ∀ c ∈ cs, c.2.1.length ≤ 1048576 ∧ c.2.2.2.2.length ≤ 1048576) (hn : cs.length ≤ 1048576) :
 Calls Tryz.prog 41 #[u, u2, .agg #[.int .i64 lo, .int .i64 hi]] w (AccP r cs lo hi w) := by
 obtain ⟨Ar, cr, rfl, -, -⟩ := hu.mk_
 obtain ⟨Ac, cc, rfl, -, -⟩ := hu2.mk_
 have hal := balloc w (.cells #[.int .i64 lo, .int .i64 hi] 24)
 have x5 := Box.new w 24 [.int .i64 lo, .int .i64 hi]
 change Box (w.alloc (.cells #[.int .i64 lo, .int .i64 hi] 24)) _ _ _ at x5
 have hc0 : Hid (SeesR w w.heap.size (.slice Ac cs.length cc) 5 cs.length (certS cs)) := hu2.more hB
 have hw := crwin_any w.heap.size _ _ r cs _ ((SeesB.more hu hB).below hal) ((hu2.more hB).below hal) hal.size (fun c hc => (hl c hc).2) hn
 unfold WinP at hw
 generalize hx : winC r cs = x at *
 have hva := Lib.hid (fun W => rvalid_any lo hi W)
 have hin := Lib.hid (fun W => rinside_any lo hi (winV r cs).1 (winV r cs).2 W)
 have hA := Lib.hid (fun (h : winC r cs = 0) (hv : vS lo hi = true) => acc_out (r := r) (cs := cs) h hv)
 have hA2 := Lib.hid (fun (h : winC r cs = 0) (hv : vS lo hi = true) => acc_yes (r := r) (cs := cs) h hv)
 generalize (winV r cs).1 = a at *
 generalize (winV r cs).2 = b at *
 replace hw := Lib.hid hw
 replace hx := Lib.hid hx
 clear hu hu2
 go_enter Tryz.func41, Tryz.ntmps41
 go_upto_region 1 with (fail)
 generalize w.alloc (.cells #[.int .i64 lo, .int .i64 hi] 24) = W0 at *
 generalize w.heap.size = g5 at x5 ⊢
 go_wp2_with fail
 refine hw.out.mono ?_
 rintro e w1 ⟨rfl, hb1⟩
 have hal2 := balloc w1 (.cells #[.int .i64 a, .int .i64 b] 24)
 have x8 := Box.new w1 24 [.int .i64 a, .int .i64 b]
 change Box (w1.alloc (.cells #[.int .i64 a, .int .i64 b] 24)) _ _ _ at x8
 have hb12 := bgo hb1 hal2
 replace x5 := x5.below hb12
 have hb2 := Lib.hid (bgo hal hb12)
 clear hal hb1 hal2 hb12 hw
 dsimp only
 go_upto_region 2 with (fail)
 generalize w1.alloc (.cells #[.int .i64 a, .int .i64 b] 24) = W2 at *
 generalize w1.heap.size = g8 at *
 by_cases hx0 : x = 0
 · subst hx0
   obtain ⟨y0, y1⟩ := boxT2 x5
   go_wp2_with fail
   refine (hva.out _).mono ?_
   rintro e w3 ⟨rfl, hb3⟩
   have hb4 := Lib.hid (bgo hb2.out hb3)
   have x53 := x5.below hb3
   have x83 := x8.below hb3
   clear y0 y1
   dsimp only
   cases hv : vS lo hi with
   | false =>
     have hC := Lib.hid (acc_form (lo := lo) (hi := hi) hx.out hv)
     replace hv := Lib.hid hv
     go_wp2_with fail
     go_returns
     exact acc_bad hC.out (by omega) hb4.out
   | true =>
     have hA3 := hA.out hx.out hv
     have hA4 := hA2.out hx.out hv
     replace hv := Lib.hid hv
     obtain ⟨y0, y1⟩ := boxT2 x53
     obtain ⟨z0, z1⟩ := boxT2 x83
     go_wp2_with fail
     refine (hin.out _).mono ?_
     rintro e w5 ⟨rfl, hb5⟩
     have hb6 := Lib.hid (bgo hb4.out hb5)
     clear y0 y1 z0 z1
     dsimp only
     cases hi' : inS lo hi a b with
     | false =>
       have hC := Lib.hid (hA3 hi')
       replace hi' := Lib.hid hi'
       clear hA3 hA4
       go_wp2_with fail
       go_returns
       exact acc_bad hC.out (by omega) hb6.out
     | true =>
       have hC := Lib.hid (hA4 hi')
       replace hi' := Lib.hid hi'
       have h14 := win_pos hx.out
       obtain ⟨m, hm⟩ : ∃ m, cs.length = m + 1 := ⟨cs.length - 1, by omega⟩
       have hml : m < cs.length := by omega
       have hpl := (hl _ (certT_mem cs m hml)).1
       obtain ⟨b0, o, A1, c1, A2, c2, rfl, hbB, z0, z1, p1, -, -, -, -⟩ := cert_at (hc0.out.below hb6.out) m hml
       have hlast : Hid ((certT cs (cs.length - 1)).2.1 = (certT cs m).2.1) := by show _ = _; rw [hm, Nat.add_sub_cancel]
       have i1 : (cs.length : Int) - 1 = (m : Int) := by omega
       have i2 : (0 : Int) ≤ (m : Int) := by omega
       have i3 : (m : Int) < (cs.length : Int) := by omega
       have hB6 := hb6.out.size
       generalize (certT cs m).2.1 = pk at *
       clear hA3 hA4 z0 hm
       have hcl := Lib.hid (rjoin_lit (vs := [.slice A1 pk.length c1]) (pk :: []) w5 w5 w5.heap.size rfl (Below.refl _ _) ⟨SeesB.more p1 hB6, trivial⟩ (by simp) (by simp; omega))
       have hfl : Hid ((pk :: []).flatten = pk) := by show _ = _; simp
       go_wp2_with fail
       refine hcl.out.mono ?_
       rintro e w7 ⟨v7, rfl, h7, hb7⟩
       rw [hfl.out] at h7
       dsimp only
       go_wp2_with fail
       go_returns
       exact acc_ok hC.out hlast.out h7.sees (bgo hb6.out hb7)
 · have hC := Lib.hid ((acc_win (lo := lo) (hi := hi) (show winC r cs ≠ 0 by rw [hx.out]; exact hx0)).trans hx.out)
   have hne : Hid (x ≠ 0) := hx0
   have i0 : (x == 0) = false := by rw [beq_eq_false_iff_ne]; exact hx0
   clear hx0
   go_wp2_with fail
   go_returns
   exact acc_bad hC.out hne.out hb2.out
end Go.Proofs.YtjgepckncogdaaaGreat

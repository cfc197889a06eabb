/- What a law leans on beyond the base: contracts, plain functions, walks. Conditions: those of each theorem. -/
import Derived.Test.YtjgepckncogdaaaGreatNC1
set_option linter.unusedVariables false
set_option linter.unusedSimpArgs false
namespace Go.Proofs.YtjgepckncogdaaaGreat
open Go Go.RowKit
set_option linter.unusedVariables false
set_option linter.unusedSimpArgs false
theorem edown_any (a : Int) (h0 : 0 ≤ a) (h1 : a < 18446744073709551616) (w : World) :
 Calls Tryz.prog 248 #[.int .u64 a] w fun e w' => e = .returned (.int .i64 (a / 4096)) ∧ w = w' := by
 go_enter Tryz.func248, Tryz.ntmps248
 go_wp2
 go_ret
 exact ⟨rfl, rfl⟩
theorem eand4095 (a : Int) (h0 : 0 ≤ a) (h1 : a < 18446744073709551616) : bits .and .u64 a 4095 = a % 4096 := by
 obtain ⟨n, rfl⟩ := Int.eq_ofNat_of_zero_le h0
 rw [show (4095 : Int) = ((4095 : Nat) : Int) from rfl, Go.bits_and_u64_nat n 4095 (by omega) (by omega), show (4095 : Nat) = 2 ^ 12 - 1 from rfl, Nat.and_two_pow_sub_one_eq_mod]
 rfl
theorem eup_any (a : Int) (h0 : 0 ≤ a) (h1 : a < 18446744073709551616) (w : World) :
 Calls Tryz.prog 247 #[.int .u64 a] w fun e w' => e = .returned (.int .i64 ((a + 4095) / 4096)) ∧ w = w' := by
 have hb := eand4095 a h0 h1
 go_enter Tryz.func247, Tryz.ntmps247
 go_wp2_with (go_at_call 248; refine (edown_any _ (by omega) (by omega) _).mono ?_; rintro e w' ⟨rfl, rfl⟩)
 all_goals (go_ret; exact ⟨ret_int (by omega), rfl⟩)
theorem eup_any' (a : Int) (h0 : 0 ≤ a) (h1 : a < 18446744073709551616) (w : World) :
 Calls Tryz.prog 247 #[.int .u64 a] w fun e w' => e = .returned (.int .i64 ((a + 4095) / 4096)) ∧ w' = w := (eup_any a h0 h1 w).mono fun _ _ ⟨h, k⟩ => ⟨h, k.symm⟩
theorem edown_any' (a : Int) (h0 : 0 ≤ a) (h1 : a < 18446744073709551616) (w : World) :
 Calls Tryz.prog 248 #[.int .u64 a] w fun e w' => e = .returned (.int .i64 (a / 4096)) ∧ w' = w := (edown_any a h0 h1 w).mono fun _ _ ⟨h, k⟩ => ⟨h, k.symm⟩
def elo_ (k w : Int) : Int := k * 4503599627370496 + w / 4096
def ehi_ (k w : Int) : Int := k * 4503599627370496 + (w + 4095) / 4096
theorem estamp_any (k a : Int) (h0 : 0 ≤ a) (h1 : a < 18446744073709551616) (hk0 : -1024 ≤ k) (hk1 : k ≤ 1024) (w : World) :
 Calls Tryz.prog 249 #[.int .i64 k, .int .u64 a] w fun e w' => e = .returned (.agg #[.int .i64 (elo_ k a), .int .i64 (ehi_ k a)]) ∧ Below w.heap.size w w' := by
 go_enter Tryz.func249, Tryz.ntmps249
 go_wp2_with (first | (go_at_call 248; refine (edown_any _ (by omega) (by omega) _).mono ?_; rintro e w' ⟨rfl, rfl⟩) | (go_at_call 247; refine (eup_any _ (by omega) (by omega) _).mono ?_; rintro e w' ⟨rfl, rfl⟩))
 go_returns
 exact ⟨rfl, by go_grown⟩
def efirst_ (lo a : Int) : Int := (lo - (a + 4095) / 4096 + 4503599627370495) / 4503599627370496
def elast_ (hi a : Int) : Int := (hi - a / 4096) / 4503599627370496
def ecellsOf (k a : Int) : Nat → List Value
 | 0 => []
 | n + 1 => ecellsOf k a n ++ [.int .i64 (elo_ (k + n) a), .int .i64 (ehi_ (k + n) a)]
theorem espan_info : (Tryz.prog.info? 24).map (fun i => (i.zero, i.size, i.bytes)) = some (some (.agg #[.int .i64 0, .int .i64 0]), 2, 16) := by kernel_rfl
set_option maxRecDepth 100000 in
theorem eunfold_ok (lo hi a : Int) (h0 : 0 ≤ a) (h1 : a < 18446744073709551616) (hv : vS lo hi = true) (hl : elast_ hi a - efirst_ lo a < 64) (w : World) :
 Calls Tryz.prog 189 #[.agg #[.int .i64 lo, .int .i64 hi], .int .u64 a] w fun e w' => ∃ v, e = .returned (.tuple #[v, .int .i64 0]) ∧
  w'.ownsRow w.heap.size 24 2 v (elast_ hi a - efirst_ lo a + 1).toNat (ecellsOf (efirst_ lo a) a (elast_ hi a - efirst_ lo a + 1).toNat) ∧ Below w.heap.size w w' := by
 obtain ⟨i0, hi0, hz0, hz1, hz2⟩ := info_parts espan_info
 have hv' := hv
 simp only [vS, decide_eq_true_eq] at hv'
 obtain ⟨v1, v2, v3⟩ := hv'
 go_enter Tryz.func189, Tryz.ntmps189
 go_wp2_with (go_at_call 105; refine (valid_any _ _ _).mono ?_; rw [hv]; rintro e w1 ⟨rfl, hb1⟩)
 have c0 : w1.cell? ⟨w.heap.size, 0, none⟩ = some (.int .i64 lo) := (hb1.cell (p := ⟨w.heap.size, 0, none⟩) (by simp)).trans (by rw [World.cell?_alloc_at _ _ _ _ rfl]; rfl)
 have c1 : w1.cell? ⟨w.heap.size, 1, none⟩ = some (.int .i64 hi) := (hb1.cell (p := ⟨w.heap.size, 1, none⟩) (by simp)).trans (by rw [World.cell?_alloc_at _ _ _ _ rfl]; rfl)
 go_quiet ((first | (go_at_call 247; exact Calls.quiet_of_same (eup_any' _ (by omega) (by omega) _)) | (go_at_call 248; exact Calls.quiet_of_same (edown_any' _ (by omega) (by omega) _))))
 have HF : Hid (efirst_ lo a = (lo - (a + 4095) / 4096 + 4503599627370496 - 1) / 4503599627370496) := by show efirst_ lo a = _; unfold efirst_; omega
 have HL : Hid (elast_ hi a = (hi - a / 4096) / 4503599627370496) := rfl
 generalize (lo - (a + 4095) / 4096 + 4503599627370496 - 1) / 4503599627370496 = F at HF ⊢
 generalize (hi - a / 4096) / 4503599627370496 = L at HL ⊢
 have hF0 : -1024 ≤ F := by rw [← HF.out]; unfold efirst_; omega
 have hF1 : F ≤ 512 := by rw [← HF.out]; unfold efirst_; omega
 have hL0 : -1024 ≤ L := by rw [← HL.out]; unfold elast_; omega
 have hL1 : L ≤ 512 := by rw [← HL.out]; unfold elast_; omega
 have hl' : L - F < 64 := by have := HF.out; have := HL.out; omega
 have HP : Hid (efirst_ lo a = F ∧ elast_ hi a = L) := ⟨HF.out, HL.out⟩
 have hb2 : Below w.heap.size w (w1.drewN nq) := below_drewN (((Below.refl _ _).alloc (Nat.le_refl _) _).trans (hb1.mono (by simp))) nq
 clear HF HL hl hv c0 c1 hb1
 generalize w1.drewN nq = w2 at hb2 ⊢
 have hz := hb2.size
 obtain ⟨n, hn⟩ : ∃ n : Nat, n = (L - F + 1).toNat := ⟨_, rfl⟩
 have HN := Lib.hid hn
 have hn1 : L - F + 1 ≤ n := by omega
 have hn2 : n ≤ 64 := by omega
 have hn3 : (n : Int) = 0 ∨ n ≤ L - F + 1 := by omega
 clear hn
 go_wp2
 go_loopw [8, 35] (fun v k wr => ∃ j : Nat, j ≤ n ∧ k = .int .i64 j ∧ wr.ownsRow w.heap.size 24 2 v j (ecellsOf F a j) ∧ Below w.heap.size w wr) (fun _ k _ => n - (intOf k).toNat)
 case atStart => exact ⟨0, Nat.zero_le _, rfl, World.ownsRow_nil _ _ _ _, hb2⟩
 case round =>
  obtain ⟨j, hj, rfl, hown, hbw⟩ := hrel
  have hsz := hbw.size
  by_cases hlt : (j : Int) < L - F + 1
  · go_wp2_with (first | (go_at_call 249; refine (estamp_any _ _ (by omega) (by omega) (by omega) (by omega) _).mono ?_; rintro e w4 ⟨rfl, hb4⟩; have hown4 := own_below hown hb4; have hz4 := hb4.size; clear hown) | (at_builtin; refine wpList_append_own _ rfl (.tmp 38) (.tmp 44) 67 rfl w.heap.size 24 i0 _ 2 16 Tryz.underlying67 hi0 hz0 hz1 hz2 rfl (by decide) _ j _ rfl (hown4.alloc _) ⟨w4.heap.size, 0, none⟩ 1 1 [.int .i64 (elo_ (F + j) a), .int .i64 (ehi_ (F + j) a)] rfl rfl ?c1 ?c2 ?c3 ?c4 ?c5 ?_))
    case c1 => exact cell_two_new _ _ _ _
    case c2 => simp [Value.oneCell']
    case c3 => unfold maxLen; omega
    case c4 => omega
    case c5 => simp; omega
    intro v' w5 hown5 hg5 _
    have hbw5 : Below w.heap.size w w5 := ((hbw.trans (hb4.mono hsz)).alloc (by omega) _).grown hg5 (by simp; omega) (fun k hk => (hown4.lt k hk).1)
    clear hown4 hg5 hb4
    go_wp2
    go_roundw
    case rel => exact ⟨j + 1, by omega, by go_num, hown5, hbw5⟩
    case measure => simp [intOf]; omega
  · go_wp2
    obtain rfl : j = n := by omega
    go_ret2
    exact ⟨_, rfl, by rw [HP.out.1, HP.out.2, ← HN.out]; exact hown, hbw⟩
theorem eown_form {w : World} {base size n : Nat} {e : TypeId} {v : Value} {xs : List Value} (h : w.ownsRow base e size v n xs) (hn : 0 < n) :
 ∃ g cap, v = .slice (some ⟨g, 0, none⟩) n cap ∧ base ≤ g ∧ g < w.heap.size ∧ n ≤ cap ∧ cap ≤ 9223372036854775807 ∧ ∀ j u, xs[j]? = some u → w.cell? ⟨g, j, none⟩ = some u := by
 rcases h.2 with ⟨_, rfl⟩ | ⟨g, cap, cur, rfl, hb, hh, hc, hm, _⟩
 · omega
 · refine ⟨g, cap, rfl, hb, (Array.getElem?_eq_some_iff.1 hh).1, hc, by unfold maxLen at hm; omega, fun j u hu => ?_⟩
   have h1 : j < n * size := by
    have := (List.getElem?_eq_some_iff.1 hu).1
    rw [h.1] at this; exact this
   rw [h.cellAt j h1]; exact hu
theorem ewire_any (t : Int) (h0 : -1152921504606846976 ≤ t) (h1 : t ≤ 1152921504606846976) (w : World) :
 Calls Tryz.prog 117 #[.int .i64 t] w fun e w' => e = .returned (.tuple #[.int .u64 ((t * 4096) % 18446744073709551616), .int .i64 0]) ∧ w = w' := by
 have hv : vT t = true := by unfold vT; simp; omega
 go_enter Tryz.func117, Tryz.ntmps117
 go_wp2_with (go_at_call 176; refine (validt_any _ _).mono ?_; rw [hv]; rintro e w' ⟨rfl, rfl⟩)
 go_ret2
 exact ⟨by simp only [IntKind.wrap_u64]; rw [show (t % 18446744073709551616 * 4096) % 18446744073709551616 = t * 4096 % 18446744073709551616 from by omega]; rfl, rfl⟩
attribute [local go_sem ↓] Go.wp_at_zero Go.wp_at_succ
theorem only_one (lo hi a : Int) (h0 : 0 ≤ a) (h1 : a < 18446744073709551616) (hv : vS lo hi = true) (hl : elast_ hi a - efirst_ lo a = 0) (w : World) :
 Calls Tryz.prog 118 #[.agg #[.int .i64 lo, .int .i64 hi], .int .u64 a] w fun e w' => e = .returned (.tuple #[.agg #[.int .i64 (elo_ (efirst_ lo a) a), .int .i64 (ehi_ (efirst_ lo a) a)], .int .i64 0]) ∧ Below w.heap.size w w' := by
 have hU := fun W => eunfold_ok lo hi a h0 h1 hv (by omega) W
 rw [hl] at hU
 have e2 : ecellsOf (efirst_ lo a) a ((0 : Int) + 1).toNat = [.int .i64 (elo_ (efirst_ lo a) a), .int .i64 (ehi_ (efirst_ lo a) a)] := by
  show ecellsOf (efirst_ lo a) a 1 = _
  simp [ecellsOf]
 rw [e2, show ((0 : Int) + 1).toNat = 1 from rfl] at hU
 generalize elo_ (efirst_ lo a) a = x at *
 generalize ehi_ (efirst_ lo a) a = y at *
 replace hU := Lib.hid hU
 clear hv hl e2
 go_enter Tryz.func118, Tryz.ntmps118
 go_wp2_with fail
 refine (hU.out _).mono ?_
 rintro e w1 ⟨v, rfl, hown, hb1⟩
 obtain ⟨g, cap, rfl, hg, hlt, hc1, hc2, hcell⟩ := eown_form hown (by decide)
 have c0 := hcell 0 _ rfl
 have c1 := hcell 1 _ rfl
 clear hcell hown
 have x3 := Box.new (w.alloc (.cells #[.int .i64 lo, .int .i64 hi] 24)) 24 [.int .i64 0, .int .i64 0]
 rw [World.size_alloc] at x3
 change Box ((w.alloc (.cells #[.int .i64 lo, .int .i64 hi] 24)).alloc (.cells #[.int .i64 0, .int .i64 0] 24)) _ _ _ at x3
 replace x3 := x3.below hb1
 obtain ⟨d0, d1, d2, d3⟩ := box2_cells x3
 have hb0 := bgo (balloc w (.cells #[.int .i64 lo, .int .i64 hi] 24)) (balloc _ (.cells #[.int .i64 0, .int .i64 0] 24))
 have hb2 := Lib.hid (((bgo hb0 hb1).setCell (p := ⟨w.heap.size + 1, 0, none⟩) (by simp) (.int .i64 x)).setCell (p := ⟨w.heap.size + 1, 1, none⟩) (by simp) (.int .i64 y))
 have x4 := (x3.set 0 (.int .i64 x)).set 1 (.int .i64 y)
 simp only [List.set_cons_zero, List.set_cons_succ] at x4
 clear hb0 hb1 hU x3
 generalize hg2 : w.heap.size + 1 = g2 at *
 dsimp only
 go_wp2_with fail
 generalize (w1.setCell ⟨g2, 0, none⟩ (.int .i64 x)).setCell ⟨g2, 1, none⟩ (.int .i64 y) = W3 at *
 have z0 : W3.cell? ⟨g2, 0, none⟩ = some (.int .i64 x) := x4.cell 0
 have z1 : W3.cell? ⟨g2, 1, none⟩ = some (.int .i64 y) := x4.cell 1
 refine bodyPost_ret (v := .tuple #[.agg #[.int .i64 x, .int .i64 y], .int .i64 0]) (by simp [results, Tryz.results118, go_sem, z0, z1]) rfl ?_
 exact ⟨rfl, hb2.out⟩
theorem mag_c (w : World) : Calls Tryz.prog 281 #[.int .i64 4] w fun e w' => e = .returned (.int .u64 4) ∧ w' = w := by
 go_enter Tryz.func281, Tryz.ntmps281
 go_wp2_with fail
 go_ret
 exact ⟨rfl, rfl⟩
theorem div_c (w : World) : Calls Tryz.prog 282 #[.int .u64 0, .int .u64 4000000000, .int .u64 1000000000] w fun e w' => e = .returned (.tuple #[.int .u64 4, .int .u64 0]) ∧ Below w.heap.size w w' := by
 go_enter Tryz.func282, Tryz.ntmps282
 go_wp2_with fail
 go_quiet (fail)
 go_wp2_with fail
 go_ret2
 refine ⟨?_, below_drewN (Below.refl _ _) _⟩
 first | kernel_rfl | simp | decide
theorem quot_c (w : World) (up : Bool) : Calls Tryz.prog 251 #[.int .i64 4, .int .i64 1000000000, .int .i64 1000000000, .bool up] w fun e w' => e = .returned (.int .i64 4) ∧ Below w.heap.size w w' := by
 cases up
 all_goals
  go_enter Tryz.func251, Tryz.ntmps251
  go_wp2_with fail
  refine (mag_c _).mono ?_
  rintro e w1 ⟨rfl, rfl⟩
  dsimp only
  go_wp2_with fail
  refine (Tryz.bits_Mul64 4 1000000000 (by omega) (by omega) _).mono ?_
  rintro e w1 ⟨rfl, rfl⟩
  dsimp only
  go_wp2_with fail
  refine (div_c _).mono ?_
  rintro e w2 ⟨rfl, hb⟩
  dsimp only
  go_wp2_with fail
  go_ret
  exact ⟨rfl, hb⟩
theorem in_c (w : World) : Calls Tryz.prog 250 #[.int .i64 4, .int .i64 0] w fun e w' => e = .returned (.bool true) ∧ w' = w := by
 have hb : ∀ W, Calls Tryz.prog 279 #[.int .i64 0] W fun e w' => e = .returned (.bool true) ∧ w' = W := fun W => by
  go_enter Tryz.func279, Tryz.ntmps279
  go_wp2_with fail
  go_ret
  exact ⟨rfl, rfl⟩
 go_enter Tryz.func250, Tryz.ntmps250
 go_wp2_with fail
 refine (hb _).mono ?_
 rintro e w1 ⟨rfl, rfl⟩
 dsimp only
 go_wp2_with fail
 go_ret
 exact ⟨rfl, rfl⟩
theorem elapsed_c (w : World) : Calls Tryz.prog 191 #[.int .i64 4, .int .i64 0] w fun e w' => e = .returned (.tuple #[.agg #[.int .i64 4, .int .i64 4], .int .i64 0]) ∧ Below w.heap.size w w' := by
 go_enter Tryz.func191, Tryz.ntmps191
 go_wp2_with fail
 refine (in_c _).mono ?_
 rintro e w1 ⟨rfl, rfl⟩
 dsimp only
 go_wp2_with fail
 have x2 := Box.new w 24 [.int .i64 0, .int .i64 0]
 change Box (w.alloc (.cells #[.int .i64 0, .int .i64 0] 24)) _ _ _ at x2
 have hal := balloc w (.cells #[.int .i64 0, .int .i64 0] 24)
 generalize hW : w.alloc (.cells #[.int .i64 0, .int .i64 0] 24) = W0 at *
 generalize hg : w.heap.size = g at x2 ⊢
 refine (quot_c _ _).mono ?_
 rintro e w2 ⟨rfl, hb2⟩
 dsimp only
 go_wp2_with fail
 refine (quot_c _ _).mono ?_
 rintro e w3 ⟨rfl, hb3⟩
 replace x2 := (x2.below hb2).below hb3
 obtain ⟨d0, d1, d2, d3⟩ := box2_cells x2
 dsimp only
 go_wp2_with fail
 have hb := Lib.hid (((bgo hal (bgo hb2 hb3)).setCell (p := ⟨g, 0, none⟩) (Nat.le_of_eq hg) (.int .i64 4)).setCell (p := ⟨g, 1, none⟩) (Nat.le_of_eq hg) (.int .i64 4))
 have x4 := (x2.set 0 (.int .i64 4)).set 1 (.int .i64 4)
 simp only [List.set_cons_zero, List.set_cons_succ] at x4
 generalize (w3.setCell ⟨g, 0, none⟩ (.int .i64 4)).setCell ⟨g, 1, none⟩ (.int .i64 4) = W3 at *
 have z0 : W3.cell? ⟨g, 0, none⟩ = some (.int .i64 4) := x4.cell 0
 have z1 : W3.cell? ⟨g, 1, none⟩ = some (.int .i64 4) := x4.cell 1
 refine bodyPost_ret (v := .tuple #[.agg #[.int .i64 4, .int .i64 4], .int .i64 0]) (by simp [results, Tryz.results191, go_sem, z0, z1]) rfl ?_
 exact ⟨rfl, hb.out⟩
theorem echeck_c (w : World) : Calls Tryz.prog 190 #[.agg #[.int .i64 5, .int .i64 4089446400000000, .int .i64 4089446400000000, .int .i64 9, .int .i64 0]] w fun e w' => e = .returned (.int .i64 0) ∧ Below w.heap.size w w' := by
 have hv := Lib.hid (fun (t : Int) (h : vT t = true) W => (show Calls Tryz.prog 176 #[.int .i64 t] W fun e w' => e = .returned (.bool true) ∧ W = w' by have := validt_any t W; rw [h] at this; exact this))
 go_enter Tryz.func190, Tryz.ntmps190
 go_wp2_with fail
 have hal := bgo (balloc w (.cells #[.int .i64 5, .int .i64 4089446400000000, .int .i64 4089446400000000, .int .i64 9, .int .i64 0] 166)) (balloc _ (.cells #[.int .i64 5, .int .i64 4089446400000000, .int .i64 4089446400000000, .int .i64 9] 3))
 have x2 := (Box.new w 166 [.int .i64 5, .int .i64 4089446400000000, .int .i64 4089446400000000, .int .i64 9, .int .i64 0]).below (balloc _ (.cells #[.int .i64 5, .int .i64 4089446400000000, .int .i64 4089446400000000, .int .i64 9] 3))
 have x3 := Box.new (w.alloc (.cells #[.int .i64 5, .int .i64 4089446400000000, .int .i64 4089446400000000, .int .i64 9, .int .i64 0] 166)) 3 [.int .i64 5, .int .i64 4089446400000000, .int .i64 4089446400000000, .int .i64 9]
 rw [World.size_alloc] at x3
 change Box ((w.alloc (.cells #[.int .i64 5, .int .i64 4089446400000000, .int .i64 4089446400000000, .int .i64 9, .int .i64 0] 166)).alloc (.cells #[.int .i64 5, .int .i64 4089446400000000, .int .i64 4089446400000000, .int .i64 9] 3)) _ _ _ at x2 x3
 generalize (w.alloc (.cells #[.int .i64 5, .int .i64 4089446400000000, .int .i64 4089446400000000, .int .i64 9, .int .i64 0] 166)).alloc (.cells #[.int .i64 5, .int .i64 4089446400000000, .int .i64 4089446400000000, .int .i64 9] 3) = W0 at *
 replace hal := Lib.hid hal
 generalize w.heap.size + 1 = g3 at *
 generalize hg2 : w.heap.size = g2 at x2 ⊢
 have a0 : W0.cell? ⟨g2, 0, none⟩ = some (.int .i64 5) := x2.cell 0
 have a1 : W0.cell? ⟨g2, 1, none⟩ = some (.int .i64 4089446400000000) := x2.cell 1
 have a2 : W0.cell? ⟨g2, 2, none⟩ = some (.int .i64 4089446400000000) := x2.cell 2
 have a3 : W0.cell? ⟨g2, 3, none⟩ = some (.int .i64 9) := x2.cell 3
 have a4 : W0.cell? ⟨g2, 4, none⟩ = some (.int .i64 0) := x2.cell 4
 have b0 : W0.cell? ⟨g3, 0, none⟩ = some (.int .i64 5) := x3.cell 0
 have b1 : W0.cell? ⟨g3, 1, none⟩ = some (.int .i64 4089446400000000) := x3.cell 1
 have b2 : W0.cell? ⟨g3, 2, none⟩ = some (.int .i64 4089446400000000) := x3.cell 2
 have b3 : W0.cell? ⟨g3, 3, none⟩ = some (.int .i64 9) := x3.cell 3
 clear x2 x3
 go_loopw [15] (fun t wr => ∃ k : Nat, k ≤ 4 ∧ t = .int .i64 k ∧ wr = W0) (fun t _ => 4 - (intOf t).toNat)
 case atStart => exact ⟨0, by omega, rfl, rfl⟩
 case round =>
  obtain ⟨k, hk, rfl, rfl⟩ := hrel
  by_cases h : k = 4
  · subst h
    go_wp2_with fail
    go_ret
    exact ⟨rfl, hal.out⟩
  · rcases (show k = 0 ∨ k = 1 ∨ k = 2 ∨ k = 3 by omega) with rfl | rfl | rfl | rfl
    all_goals
     go_wp2_with fail
     refine (hv.out _ (by decide) _).mono ?_
     rintro e w4 ⟨rfl, rfl⟩
     dsimp only
     go_wp2_with fail
     go_roundw
     case rel => first | exact ⟨1, by omega, by first | rfl | trivial, by first | rfl | trivial⟩ | exact ⟨2, by omega, by first | rfl | trivial, by first | rfl | trivial⟩ | exact ⟨3, by omega, by first | rfl | trivial, by first | rfl | trivial⟩ | exact ⟨4, by omega, by first | rfl | trivial, by first | rfl | trivial⟩
     case measure => simp [intOf]
theorem eat_c (w : World) : Calls Tryz.prog 119 #[.agg #[.int .i64 5, .int .i64 4089446400000000, .int .i64 4089446400000000, .int .i64 9, .int .i64 0], .int .i64 0] w fun e w' => e = .returned (.tuple #[.agg #[.int .i64 4089446400000000, .int .i64 4089446400000004], .int .i64 0]) ∧ Below w.heap.size w w' := by
 have hv := Lib.hid (fun (t : Int) (h : vT t = true) W => (show Calls Tryz.prog 176 #[.int .i64 t] W fun e w' => e = .returned (.bool true) ∧ W = w' by have := validt_any t W; rw [h] at this; exact this))
 go_enter Tryz.func119, Tryz.ntmps119
 go_wp2_with fail
 have hal := bgo (balloc w (.cells #[.int .i64 5, .int .i64 4089446400000000, .int .i64 4089446400000000, .int .i64 9, .int .i64 0] 166)) (balloc _ (.cells #[.int .i64 0, .int .i64 0] 24))
 have x2 := (Box.new w 166 [.int .i64 5, .int .i64 4089446400000000, .int .i64 4089446400000000, .int .i64 9, .int .i64 0]).below (balloc _ (.cells #[.int .i64 0, .int .i64 0] 24))
 have x3 := Box.new (w.alloc (.cells #[.int .i64 5, .int .i64 4089446400000000, .int .i64 4089446400000000, .int .i64 9, .int .i64 0] 166)) 24 [.int .i64 0, .int .i64 0]
 rw [World.size_alloc] at x3
 change Box ((w.alloc (.cells #[.int .i64 5, .int .i64 4089446400000000, .int .i64 4089446400000000, .int .i64 9, .int .i64 0] 166)).alloc (.cells #[.int .i64 0, .int .i64 0] 24)) _ _ _ at x2 x3
 generalize (w.alloc (.cells #[.int .i64 5, .int .i64 4089446400000000, .int .i64 4089446400000000, .int .i64 9, .int .i64 0] 166)).alloc (.cells #[.int .i64 0, .int .i64 0] 24) = W0 at *
 replace hal := Lib.hid hal
 have hg3 : Hid (w.heap.size ≤ w.heap.size + 1) := Nat.le_succ _
 generalize w.heap.size + 1 = g3 at *
 generalize hg2 : w.heap.size = g2 at x2 ⊢
 refine (echeck_c _).mono ?_
 rintro e w1 ⟨rfl, hb1⟩
 replace x2 := x2.below hb1
 replace x3 := x3.below hb1
 replace hal := Lib.hid (bgo hal.out hb1)
 have a0 : w1.cell? ⟨g2, 0, none⟩ = some (.int .i64 5) := x2.cell 0
 have a3 : w1.cell? ⟨g2, 3, none⟩ = some (.int .i64 9) := x2.cell 3
 dsimp only
 go_wp2_with fail
 refine (elapsed_c _).mono ?_
 rintro e w2 ⟨rfl, hb2⟩
 clear a0 a3
 replace x2 := x2.below hb2
 replace x3 := x3.below hb2
 replace hal := Lib.hid (bgo hal.out hb2)
 have a1 : w2.cell? ⟨g2, 1, none⟩ = some (.int .i64 4089446400000000) := x2.cell 1
 have a2 : w2.cell? ⟨g2, 2, none⟩ = some (.int .i64 4089446400000000) := x2.cell 2
 have a4 : w2.cell? ⟨g2, 4, none⟩ = some (.int .i64 0) := x2.cell 4
 have hal2 := balloc w2 (.cells #[.int .i64 4, .int .i64 4] 24)
 have x4 := Box.new w2 24 [.int .i64 4, .int .i64 4]
 change Box (w2.alloc (.cells #[.int .i64 4, .int .i64 4] 24)) _ _ _ at x4
 have y2 := x2.below hal2
 have c1 : (w2.alloc (.cells #[.int .i64 4, .int .i64 4] 24)).cell? ⟨g2, 1, none⟩ = some (.int .i64 4089446400000000) := y2.cell 1
 have c2 : (w2.alloc (.cells #[.int .i64 4, .int .i64 4] 24)).cell? ⟨g2, 2, none⟩ = some (.int .i64 4089446400000000) := y2.cell 2
 have c4 : (w2.alloc (.cells #[.int .i64 4, .int .i64 4] 24)).cell? ⟨g2, 4, none⟩ = some (.int .i64 0) := y2.cell 4
 obtain ⟨d0, d1, d2, d3⟩ := box2_cells (x3.below hal2)
 obtain ⟨e0, e1, e2, e3⟩ := box2_cells x4
 dsimp only
 go_wp2_with fail
 have x5 := Box.new (w2.alloc (.cells #[.int .i64 4, .int .i64 4] 24)) 24 [.int .i64 4089446400000000, .int .i64 4089446400000004]
 rw [World.size_alloc] at x5
 have hal3 := balloc (w2.alloc (.cells #[.int .i64 4, .int .i64 4] 24)) (.cells #[.int .i64 4089446400000000, .int .i64 4089446400000004] 24)
 have z3 := (x3.below hal2).below hal3
 change Box ((w2.alloc (.cells #[.int .i64 4, .int .i64 4] 24)).alloc (.cells #[.int .i64 4089446400000000, .int .i64 4089446400000004] 24)) _ _ _ at x5 z3
 replace hal := Lib.hid (bgo (bgo hal.out hal2) hal3)
 clear hb1 hb2 x2 x3 a1 a2 a4 hal2 x4 y2 c1 c2 c4 d0 d1 d2 d3 e0 e1 e2 e3 hal3
 change Hid (Below w.heap.size w ((w2.alloc (.cells #[.int .i64 4, .int .i64 4] 24)).alloc (.cells #[.int .i64 4089446400000000, .int .i64 4089446400000004] 24))) at hal
 generalize (w2.alloc (.cells #[.int .i64 4, .int .i64 4] 24)).alloc (.cells #[.int .i64 4089446400000000, .int .i64 4089446400000004] 24) = W4 at *
 generalize w2.heap.size + 1 = g5 at *
 obtain ⟨d0, d1, d2, d3⟩ := box2_cells z3
 obtain ⟨e0, e1, e2, e3⟩ := box2_cells x5
 refine (hv.out _ (by decide) _).mono ?_
 rintro e w4 ⟨rfl, rfl⟩
 dsimp only
 go_wp2_with fail
 refine (hv.out _ (by decide) _).mono ?_
 rintro e w4 ⟨rfl, rfl⟩
 dsimp only
 go_wp2_with fail
 have hb := Lib.hid ((hal.out.setCell (p := ⟨g3, 0, none⟩) hg3.out (.int .i64 4089446400000000)).setCell (p := ⟨g3, 1, none⟩) hg3.out (.int .i64 4089446400000004))
 have x6 := (z3.set 0 (.int .i64 4089446400000000)).set 1 (.int .i64 4089446400000004)
 simp only [List.set_cons_zero, List.set_cons_succ] at x6
 generalize (W4.setCell ⟨g3, 0, none⟩ (.int .i64 4089446400000000)).setCell ⟨g3, 1, none⟩ (.int .i64 4089446400000004) = W3 at *
 have z0 : W3.cell? ⟨g3, 0, none⟩ = some (.int .i64 4089446400000000) := x6.cell 0
 have z1 : W3.cell? ⟨g3, 1, none⟩ = some (.int .i64 4089446400000004) := x6.cell 1
 refine bodyPost_ret (v := .tuple #[.agg #[.int .i64 4089446400000000, .int .i64 4089446400000004], .int .i64 0]) (by simp [results, Tryz.results119, go_sem, z0, z1]) rfl ?_
 exact ⟨rfl, hb.out⟩
theorem only_c (w : World) : Calls Tryz.prog 118 #[.agg #[.int .i64 4089446399999000, .int .i64 4089446400001000], .int .u64 16750372454400000000] w fun e w' => e = .returned (.tuple #[.agg #[.int .i64 4089446400000000, .int .i64 4089446400000000], .int .i64 0]) ∧ Below w.heap.size w w' := by
 have h := only_one 4089446399999000 4089446400001000 16750372454400000000 (by omega) (by omega) (by decide) (by decide) w
 rw [show efirst_ 4089446399999000 16750372454400000000 = 0 by decide, show elo_ 0 16750372454400000000 = 4089446400000000 by decide, show ehi_ 0 16750372454400000000 = 4089446400000000 by decide] at h
 exact h
theorem awake_any (w : World) : Calls Tryz.prog 57 #[] w fun e w' => e = .returned (.bool true) ∧ Below w.heap.size w w' := by
 go_enter Tryz.func57, Tryz.ntmps57
 go_wp2_with fail
 refine (ewire_any _ (by omega) (by omega) _).mono ?_
 rintro e w1 ⟨rfl, rfl⟩
 dsimp only
 go_wp2_with fail
 refine (only_c _).mono ?_
 rintro e w2 ⟨rfl, hb2⟩
 dsimp only
 go_wp2_with fail
 have hal := balloc w2 (.cells #[.int .i64 4089446400000000, .int .i64 4089446400000000] 24)
 have x2 := Box.new w2 24 [.int .i64 4089446400000000, .int .i64 4089446400000000]
 change Box (w2.alloc (.cells #[.int .i64 4089446400000000, .int .i64 4089446400000000] 24)) _ _ _ at x2
 replace hal := Lib.hid (bgo hb2 hal)
 clear hb2
 generalize w2.alloc (.cells #[.int .i64 4089446400000000, .int .i64 4089446400000000] 24) = W0 at *
 generalize w2.heap.size = g2 at *
 refine (eat_c _).mono ?_
 rintro e w3 ⟨rfl, hb3⟩
 have hal3 := balloc w3 (.cells #[.int .i64 4089446400000000, .int .i64 4089446400000004] 24)
 replace x2 := (x2.below hb3).below hal3
 obtain ⟨d0, d1, d2, d3⟩ := box2_cells x2
 have x4 := Box.new w3 24 [.int .i64 4089446400000000, .int .i64 4089446400000004]
 change Box (w3.alloc (.cells #[.int .i64 4089446400000000, .int .i64 4089446400000004] 24)) _ _ _ at x4
 obtain ⟨e0, e1, e2, e3⟩ := box2_cells x4
 replace hal := Lib.hid (bgo (bgo hal.out hb3) hal3)
 clear hb3 hal3 x2 x4
 dsimp only
 go_wp2_with fail
 have hh := Lib.hid (fun W => holds_any 4089446400000000 4089446400000004 4089446400000004 W)
 rw [show (vS 4089446400000000 4089446400000004 && (decide ((4089446400000000 : Int) ≤ 4089446400000004) && decide ((4089446400000004 : Int) ≤ 4089446400000004))) = true by decide] at hh
 refine (hh.out _).mono ?_
 rintro e w4 ⟨rfl, hb4⟩
 replace hal := Lib.hid (bgo hal.out hb4)
 clear hb4 d0 d1 d2 d3 e0 e1 e2 e3 hh
 dsimp only
 go_wp2_with fail
 go_ret
 exact ⟨rfl, hal.out⟩
end Go.Proofs.YtjgepckncogdaaaGreat

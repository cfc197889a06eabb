/- What a law leans on beyond the base: contracts, plain functions, walks. Conditions: those of each theorem. -/
import Derived.Test.YtjgepckncogdaaaGreatVVoV
import Derived.Test.YtjgepckncogdaaaGreatVVoF
set_option linter.unusedVariables false
set_option linter.unusedSimpArgs false
namespace Go.Proofs.YtjgepckncogdaaaGreat
open Go Go.RowKit
set_option linter.unusedVariables false
theorem inS_iff {lo hi f t : Int} : inS lo hi f t = true ↔ vS lo hi = true ∧ vS f t = true ∧ f ≤ lo ∧ hi ≤ t := by
 unfold inS
 simp only [Bool.and_eq_true, decide_eq_true_eq]
theorem meB_iff {a b c d : Int} : meB a b c d = true ↔ vS a b = true ∧ vS c d = true ∧ max a c ≤ min b d := by
 unfold meB
 simp only [Bool.and_eq_true, decide_eq_true_eq]
theorem meV_yes {a b c d : Int} (h : meB a b c d = true) : meV a b c d = (max a c, min b d) := by
 unfold meV; rw [if_pos h]
theorem met_sub (ws : List Sp) : ∀ k, (metL ws k).1 = true → (∀ j, j < k → (ws.getD j (0, 0)).1 ≤ (metL ws k).2.1 ∧ (metL ws k).2.2 ≤ (ws.getD j (0, 0)).2) ∧ vS (metL ws k).2.1 (metL ws k).2.2 = true := by
 intro k
 induction k with
 | zero => intro _; exact ⟨fun j hj => absurd hj (by omega), vS_iff.2 ⟨Int.le_refl _, Int.le_refl _, by show (-1152921504606846976 : Int) ≤ 1152921504606846976; omega⟩⟩
 | succ k ih =>
   intro h
   cases hk : (metL ws k).1 with
   | false =>
     rw [metL_stop hk 1] at h
     rw [h] at hk; cases hk
   | true =>
     obtain ⟨h1, h2⟩ := ih hk
     have hn := metL_next (ws := ws) hk
     rw [hn] at h ⊢
     dsimp only at h ⊢
     rw [meV_yes h]
     obtain ⟨m1, m2, m3⟩ := meB_iff.1 h
     rw [vS_iff] at m1 m2
     refine ⟨fun j hj => ?_, vS_iff.2 (by dsimp only; omega)⟩
     dsimp only
     rcases Nat.lt_or_ge j k with hjk | hjk
     · have := h1 j hjk; omega
     · obtain rfl : j = k := by omega
       omega
theorem met_has (ws : List Sp) (x : Int) : ∀ k, (∀ j, j < k → vS (ws.getD j (0, 0)).1 (ws.getD j (0, 0)).2 = true ∧ (ws.getD j (0, 0)).1 ≤ x ∧ x ≤ (ws.getD j (0, 0)).2) → -1152921504606846976 ≤ x → x ≤ 1152921504606846976 → (metL ws k).1 = true ∧ (metL ws k).2.1 ≤ x ∧ x ≤ (metL ws k).2.2 := by
 intro k
 induction k with
 | zero => intro _ h1 h2; exact ⟨rfl, h1, h2⟩
 | succ k ih =>
   intro h h1 h2
   obtain ⟨a1, a2, a3⟩ := ih (fun j hj => h j (by omega)) h1 h2
   obtain ⟨b1, b2, b3⟩ := h k (by omega)
   have hs := (met_sub ws k a1).2
   have hm : meB (metL ws k).2.1 (metL ws k).2.2 (ws.getD k (0, 0)).1 (ws.getD k (0, 0)).2 = true := meB_iff.2 ⟨hs, b1, by omega⟩
   rw [metL_next a1]
   dsimp only
   rw [hm, meV_yes hm]
   exact ⟨rfl, by dsimp only; omega, by dsimp only; omega⟩
theorem honL_get (v : Int) (ws : List Sp) (n k : Nat) (h : k < n) : certT (honL v ws n) k = honC v ws k := by
 unfold certT honL
 rw [List.getD_eq_getElem?_getD, List.getElem?_map, List.getElem?_range h]
 rfl
theorem par_hon (v : Int) (ws : List Sp) (n : Nat) : ∀ k, k ≤ n → parG (keyG (seedC v 0) 0) (honL v ws n) k = keyG (seedC v k) 0 := by
 intro k hk
 cases k with
 | zero => rfl
 | succ k => rw [parG, honL_get v ws n k (by omega)]; rfl
theorem chk_hon (v : Int) (ws : List Sp) (n : Nat) (hn : n ≤ 9) (hv : ∀ k, k < n → vS (ws.getD k (0, 0)).1 (ws.getD k (0, 0)).2 = true) : ∀ k, k ≤ n → chkK (keyG (seedC v 0) 0) (honL v ws n) k = 0 := by
 intro k
 induction k with
 | zero => intro _; rfl
 | succ k ih =>
   intro hk
   have hp := par_hon v ws n k (by omega)
   have hkl : (keyG (seedC v (k + 1)) 0).length = 32 := keyG_len _ _
   have hf := name_formed k (by omega) _ _ (hv k (by omega))
   have hm := ctext_len (nameC k) (keyG (seedC v (k + 1)) 0) (ws.getD k (0, 0)).1 (ws.getD k (0, 0)).2 (by simp [nameC]) hkl
   have hvs := verify_sig (seedC v k) 0 0 (ctextB (nameC k) (keyG (seedC v (k + 1)) 0) (ws.getD k (0, 0)).1 (ws.getD k (0, 0)).2) (by omega) (by omega) (by omega)
   rw [chkK_next (ih (by omega)), hp, honL_get v ws n k (by omega)]
   unfold cchkC honC
   dsimp only
   rw [hkl, hf, hvs]
   rfl
theorem winL_hon (v : Int) (ws : List Sp) : winL (honL v ws ws.length) = ws := by
 apply List.ext_getElem?
 intro j
 unfold winL honL
 rw [List.getElem?_map, List.getElem?_map]
 by_cases h : j < ws.length
 · rw [List.getElem?_range h, List.getElem?_eq_getElem h]
   show some (((ws.getD j (0, 0)).1, (ws.getD j (0, 0)).2)) = _
   rw [List.getD_eq_getElem?_getD, List.getElem?_eq_getElem h]
   rfl
 · rw [List.getElem?_eq_none (by simp; omega), List.getElem?_eq_none (by omega)]
   rfl
def insK (ws : List Sp) (lo hi : Int) : Nat → Bool
 | 0 => true
 | k + 1 => insK ws lo hi k && inS lo hi (ws.getD k (0, 0)).1 (ws.getD k (0, 0)).2
theorem insK_each {ws : List Sp} {lo hi : Int} : ∀ k, insK ws lo hi k = true ↔ ∀ j, j < k → inS lo hi (ws.getD j (0, 0)).1 (ws.getD j (0, 0)).2 = true := by
 intro k
 induction k with
 | zero => exact ⟨fun _ j hj => absurd hj (by omega), fun _ => rfl⟩
 | succ k ih =>
   rw [insK, Bool.and_eq_true, ih]
   constructor
   · rintro ⟨h1, h2⟩ j hj
     rcases Nat.lt_or_ge j k with h | h
     · exact h1 j h
     · obtain rfl : j = k := by omega
       exact h2
   · intro h
     exact ⟨fun j hj => h j (by omega), h k (by omega)⟩
theorem acc_hon {v : Int} {ws : List Sp} {lo hi : Int} (h1 : 1 ≤ ws.length) (h4 : ws.length ≤ 4) (hv : ∀ k, k < ws.length → vS (ws.getD k (0, 0)).1 (ws.getD k (0, 0)).2 = true) (hs : vS lo hi = true) :
 accC (keyG (seedC v 0) 0) (honL v ws ws.length) lo hi = if insK ws lo hi ws.length = true then 0 else 25 := by
 have hc := chk_hon v ws ws.length (by omega) hv ws.length (Nat.le_refl _)
 have hl := honL_len v ws ws.length
 have hw := winL_hon v ws
 have hs' := vS_iff.1 hs
 by_cases hi' : insK ws lo hi ws.length = true
 · rw [if_pos hi']
   have he := (insK_each ws.length).1 hi'
   have hx := met_has ws lo ws.length (fun j hj => by have := inS_iff.1 (he j hj); exact ⟨hv j hj, this.2.2.1, by omega⟩) (by omega) (by omega)
   have hy := met_has ws hi ws.length (fun j hj => by have := inS_iff.1 (he j hj); exact ⟨hv j hj, by omega, this.2.2.2⟩) (by omega) (by omega)
   obtain ⟨w1, w2⟩ := win_yes (r := keyG (seedC v 0) 0) (cs := honL v ws ws.length) (by rw [hl]; omega) (by rw [hl]; exact hc) (by rw [hw, hl]; exact hx.1)
   refine acc_yes w1 hs ?_
   rw [w2, hw, hl]
   exact inS_iff.2 ⟨hs, (met_sub ws _ hx.1).2, hx.2.1, hy.2.2⟩
 · rw [if_neg hi']
   cases hm : (metL ws ws.length).1 with
   | false =>
     have hw5 := win_no (r := keyG (seedC v 0) 0) (cs := honL v ws ws.length) (by rw [hl]; omega) (by rw [hl]; exact hc) (by rw [hw, hl]; exact hm)
     rw [acc_win (by rw [hw5]; omega), hw5]
   | true =>
     obtain ⟨w1, w2⟩ := win_yes (r := keyG (seedC v 0) 0) (cs := honL v ws ws.length) (by rw [hl]; omega) (by rw [hl]; exact hc) (by rw [hw, hl]; exact hm)
     refine acc_out w1 hs ?_
     rw [w2, hw, hl]
     cases hq : inS lo hi (metL ws ws.length).2.1 (metL ws ws.length).2.2 with
     | false => rfl
     | true =>
       exfalso
       apply hi'
       rw [insK_each]
       intro j hj
       have hq' := inS_iff.1 hq
       have hsub := (met_sub ws _ hm).1 j hj
       exact inS_iff.2 ⟨hs, hv j hj, by omega, by omega⟩
set_option linter.unusedSimpArgs false
attribute [local go_sem ↓] Go.wp_at_zero Go.wp_at_succ
theorem voi_vacc {v f truth : Int} {ts : List VoiT} (h : VoiOk v f truth ts) (t0 : 0 ≤ truth) (t1 : truth ≤ 10000) {j : Nat} (hj : j < ts.length) (hf : f ≤ (j : Int)) : vacc (keyG (seedC v 0) 0) (voiT ts j) = 0 ∧ (voiT ts j).2.2.1 ≤ truth ∧ truth ≤ (voiT ts j).2.2.2 ∧ -100 ≤ (voiT ts j).2.2.1 ∧ (voiT ts j).2.2.2 ≤ 10100 := by
 obtain ⟨-, -, h3⟩ := h j hj
 obtain ⟨a, b, e, a1, a2, a3, a4, a5, a6⟩ := h3 hf
 refine ⟨?_, a3, a4, by omega, by omega⟩
 have hac := acc_hon (v := v) (ws := (a, b) :: []) (lo := (voiT ts j).2.2.1) (hi := (voiT ts j).2.2.2) (by simp) (by simp) (fun k hk => by
  obtain rfl : k = 0 := by simp at hk; omega
  rw [vS_iff]; simp; omega) (by rw [vS_iff]; omega)
 unfold vacc
 rw [e]
 refine hac.trans (if_pos ?_)
 rw [insK_each]
 intro k hk
 obtain rfl : k = 0 := by simp at hk; omega
 rw [inS_iff, vS_iff, vS_iff]
 simp
 omega
set_option linter.unusedSimpArgs false
attribute [local go_sem ↓] Go.wp_at_zero Go.wp_at_succ
def HullF (ts : List VoiT) (f k : Nat) (a b : Int) : Prop :=
 a ≤ (voiT ts f).2.2.1 ∧ (voiT ts f).2.2.2 ≤ b ∧ -100 ≤ a ∧ b ≤ 10100 ∧ ∀ j, f ≤ j → j < k → a ≤ (voiT ts j).2.2.1 ∧ (voiT ts j).2.2.2 ≤ b
theorem hullF_inside {ts : List VoiT} {f : Nat} {t lo hi a b : Int} (h : HullF ts f ts.length a b) (ht : (voiT ts f).2.2.1 ≤ t ∧ t ≤ (voiT ts f).2.2.2) (h1 : lo ≤ t) (h2 : t ≤ hi)
 (e1 : ∃ j, f ≤ j ∧ j < ts.length ∧ (voiT ts j).2.2.1 ≤ lo ∧ lo ≤ (voiT ts j).2.2.2) (e2 : ∃ j, f ≤ j ∧ j < ts.length ∧ (voiT ts j).2.2.1 ≤ hi ∧ hi ≤ (voiT ts j).2.2.2) : inS lo hi a b = true ∧ hdB lo hi t = true := by
 obtain ⟨p1, p2, p3, p4, p5⟩ := h
 obtain ⟨j, j1, j2, j3, -⟩ := e1
 obtain ⟨m, m1, m2, -, m4⟩ := e2
 have q1 := (p5 j j1 j2).1
 have q2 := (p5 m m1 m2).2
 refine ⟨inS_iff.2 ⟨by rw [vS_iff]; omega, by rw [vS_iff]; omega, by omega, by omega⟩, ?_⟩
 unfold hdB
 rw [Bool.and_eq_true]
 refine ⟨by rw [vS_iff]; omega, by simp; omega⟩
theorem voi_lensM {v f truth : Int} {ts : List VoiT} (h : VoiOk v f truth ts) : ∀ t ∈ ts, t.2.1.length ≤ 1048576 ∧ ∀ c ∈ t.2.1, c.2.1.length ≤ 1048576 ∧ c.2.2.2.2.length ≤ 1048576 := by
 intro t ht
 obtain ⟨j, hj⟩ := List.mem_iff_getElem?.1 ht
 have hjl := (List.getElem?_eq_some_iff.1 hj).1
 have e : voiT ts j = t := by have := voiT_get ts j hjl; rw [hj] at this; exact (Option.some.inj this).symm
 obtain ⟨h1, h2, -⟩ := h j hjl
 rw [e] at h1 h2
 exact ⟨by omega, h2⟩
set_option maxRecDepth 100000 in
set_option maxHeartbeats 8000000 in
theorem ctruth_law (v : Int) (wf0 : (Lit.int .i64 v).wf = true) (B : Nat) (u : Value) (l : List Int) (w : World) (s : SeesT w B u l) (hB : B ≤ w.heap.size) :
 Calls Tryz.prog 9 #[.int .i64 v, u] w fun e w' => e = .returned (.bool true) ∧ Below w.heap.size w w' := by
 obtain ⟨Ar, cr, rfl, -, -⟩ := s.mk_
 clear wf0
 have hkn := Lib.hid (fun W => ckn_any W)
 have hnew := Lib.hid (tnew_any _ l w (Sees.more s hB))
 have hin := Lib.hid (fun g (n : Int) (hn : 1 ≤ n) (hn2 : n ≤ 1048576) W k (h : TapeAt W g (.slice Ar l.length cr) l k) => tint_any g _ l k n W h hn hn2)
 clear s hB
 go_enter Tryz.func9, Tryz.ntmps9
 go_wp2_with fail
 refine hnew.out.mono ?_
 rintro e w1 ⟨rfl, t1, hb1, hgl1⟩
 have hi1 := Lib.hid (hin.out _ 5 (by omega) (by omega) w1 0 t1)
 have a1 := Int.emod_nonneg (l.getD 0 0) (show (5 : Int) ≠ 0 by omega)
 have a2 := Int.emod_lt_of_pos (l.getD 0 0) (show (0 : Int) < 5 by omega)
 obtain ⟨n, hN⟩ : ∃ n : Nat, 1 + l.getD 0 0 % 5 = (n : Int) := ⟨(1 + l.getD 0 0 % 5).toNat, by omega⟩
 generalize l.getD 0 0 % 5 = x at *
 obtain ⟨g, hg⟩ : ∃ g, g = w.heap.size := ⟨_, rfl⟩
 rw [← hg] at t1 hi1 hgl1 ⊢
 replace hg := Lib.hid hg
 replace hb1 := Lib.hid hb1
 clear hnew t1
 have hn1 : 1 ≤ n := by omega
 have hn5 : n ≤ 5 := by omega
 replace hN := Lib.hid hN
 dsimp only
 go_wp2_with fail
 refine hi1.out.mono ?_
 rintro e w2 ⟨rfl, t2, g2⟩
 clear hi1
 dsimp only
 go_wp2_with fail
 rw [hN.out]
 clear hN a1 a2
 have hi2 := Lib.hid (hin.out g (((n : Int) + 1) / 2) (by omega) (by omega) w2 _ t2)
 have b1 := Int.emod_nonneg (l.getD (stepK l 0) 0) (show ((n : Int) + 1) / 2 ≠ 0 by omega)
 have b2 := Int.emod_lt_of_pos (l.getD (stepK l 0) 0) (show (0 : Int) < ((n : Int) + 1) / 2 by omega)
 obtain ⟨F, hF⟩ : ∃ F : Nat, l.getD (stepK l 0) 0 % (((n : Int) + 1) / 2) = (F : Int) := ⟨(l.getD (stepK l 0) 0 % (((n : Int) + 1) / 2)).toNat, by omega⟩
 rw [hF] at b1 b2 hi2
 have hFn : 2 * F < n := by omega
 replace g2 := Lib.hid g2
 clear t2 b1 b2 hF
 refine hi2.out.mono ?_
 rintro e w3 ⟨rfl, t3, g3⟩
 have hi3 := Lib.hid (hin.out g 80 (by omega) (by omega) w3 _ t3)
 have c1 := Int.emod_nonneg (l.getD (stepK l (stepK l 0)) 0) (show (80 : Int) ≠ 0 by omega)
 have c2 := Int.emod_lt_of_pos (l.getD (stepK l (stepK l 0)) 0) (show (0 : Int) < 80 by omega)
 generalize l.getD (stepK l (stepK l 0)) 0 % 80 = y at *
 replace g2 := Lib.hid (ggo g2.out g3)
 clear t3 g3 hi2
 dsimp only
 go_wp2_with fail
 refine hi3.out.mono ?_
 rintro e w4 ⟨rfl, t4, g4⟩
 have hvo := Lib.hid (voices_any g _ l _ v n (F : Int) (60 + y) w4 t4 (by omega) (by omega) (by omega) (by omega))
 replace g2 := Lib.hid (ggo g2.out g4)
 clear t4 g4 hi3
 dsimp only
 go_wp2_with fail
 refine hvo.out.mono ?_
 rintro e w5 ⟨v1, v2, ts, k4, R, rfl, o5, rfl, r5, hR, hok, t5, gr5⟩
 have hR' := hR (by omega)
 subst hR'
 have t0 : (0 : Int) ≤ 60 + y := by omega
 have t1' : 60 + y ≤ 10000 := by omega
 have hhon : ∀ k, F ≤ k → k < ts.length → vacc (keyG (seedC v 0) 0) (voiT ts k) = 0 ∧ (voiT ts k).2.2.1 ≤ 60 + y ∧ 60 + y ≤ (voiT ts k).2.2.2 := fun k h1 h2 => by
  obtain ⟨p1, p2, p3, -, -⟩ := voi_vacc hok t0 t1' h2 (by omega)
  exact ⟨p1, p2, p3⟩
 have hbnd : ∀ k, F ≤ k → k < ts.length → -100 ≤ (voiT ts k).2.2.1 ∧ (voiT ts k).2.2.2 ≤ 10100 := fun k h1 h2 => by
  obtain ⟨-, -, -, p1, p2⟩ := voi_vacc hok t0 t1' h2 (by omega)
  exact ⟨p1, p2⟩
 have s5 := o5.sees
 obtain ⟨Av, cv, rfl, -, -⟩ := s5.1.mk_
 obtain ⟨Aw, cw, rfl, -, -⟩ := r5.mk_
 have hb5 := Lib.hid (below_tape hb1.out (ggo g2.out gr5) (Nat.le_of_eq hg.out.symm) hb1.out.size)
 have hfA := Lib.hid (cvfirst_any w5.heap.size (.slice Aw (keyG (seedC v 0) 0).length cw) (.slice Av ts.length cv) (keyG (seedC v 0) 0) ts (F : Int) w5 r5 s5 (Nat.le_refl _) (voi_lensM hok))
 replace s5 := Lib.hid s5
 replace hhon := Lib.hid hhon
 replace hbnd := Lib.hid hbnd
 clear hvo o5 r5 hok t5 gr5 hb1 hgl1 g2 hR t0 t1' hin
 dsimp only
 go_wp2_with fail
 refine hfA.out.mono ?_
 rintro e w6 ⟨vA, cA, loA, hiA, isA, rfl, sA, fA, hb6⟩
 obtain ⟨rfl, q1, q2, q4, hl64, q5, q6⟩ := truth_plain (t := 60 + y) (by omega) hFn hhon.out fA
 obtain ⟨A6, c6, rfl, -, -⟩ := sA.mk_
 have hal := balloc w6 (.cells #[.int .i64 loA, .int .i64 hiA] 24)
 have x11 := Box.new w6 24 [.int .i64 loA, .int .i64 hiA]
 change Box (w6.alloc (.cells #[.int .i64 loA, .int .i64 hiA] 24)) _ _ _ at x11
 have hb7 := bgo hb6 hal
 have s7 := (s5.out.below hb7).more hb7.size
 have sA' : SeesT (w6.alloc (.cells #[.int .i64 loA, .int .i64 hiA] 24)) (w6.alloc (.cells #[.int .i64 loA, .int .i64 hiA] 24)).heap.size (.slice A6 isA.length c6) isA := (Sees.below sA hal).more hal.size
 replace hb5 := bgo hb5.out hb7
 clear hfA hb6 hal sA fA s5 hb7
 dsimp only
 go_upto_region 7 with (fail)
 generalize w6.alloc (.cells #[.int .i64 loA, .int .i64 hiA] 24) = W7 at *
 generalize w6.heap.size = g11 at *
 obtain ⟨k0, k1⟩ := boxT2 x11
 have hhd : hdB loA hiA (60 + y) = true := by
  obtain ⟨j, j1, j2, j3, -⟩ := q5
  obtain ⟨m, m1, m2, -, m4⟩ := q6
  have p1 := (hbnd.out j j1 j2).1
  have p2 := (hbnd.out m m1 m2).2
  unfold hdB
  rw [Bool.and_eq_true]
  exact ⟨by rw [vS_iff]; omega, by simp; omega⟩
 have hhl := rholds_any loA hiA (60 + y) W7
 rw [hhd] at hhl
 replace hhl := Lib.hid hhl
 replace x11 := Lib.hid x11
 replace s7 := Lib.hid s7
 replace sA' := Lib.hid sA'
 replace hb5 := Lib.hid hb5
 replace q5 := Lib.hid q5
 replace q6 := Lib.hid q6
 replace q4 := Lib.hid q4
 clear hhd
 go_wp2_with fail
 refine hhl.out.mono ?_
 rintro e w8 ⟨rfl, hb8⟩
 have x11' := Lib.hid (x11.out.below hb8)
 have s8 := Lib.hid ((s7.out.below hb8).more hb8.size)
 have sA8 := Lib.hid ((Sees.below sA'.out hb8).more hb8.size)
 replace hb5 := Lib.hid (bgo hb5.out hb8)
 clear hhl k0 k1 x11 s7 sA' hb8
 dsimp only
 go_wp2_with fail
 go_loopw [14, 15] (fun c i wr => ∃ k : Nat, k ≤ isA.length ∧ c = .int .i64 (cntF F (isA.take k) : Int) ∧ i = .int .i64 k ∧ wr = w8) (fun _ i _ => isA.length - (intOf i).toNat)
 case atStart => exact ⟨0, by omega, rfl, rfl, rfl⟩
 case round =>
  obtain ⟨k, hk, rfl, rfl, hw⟩ := hrel
  obtain rfl := hw.symm
  by_cases hlt : k < isA.length
  · obtain ⟨b, o, rfl, hb, hcell⟩ := SeesT.at_ sA8.out (by omega)
    have x0 := hcell k hlt
    have hnx : cntF F (isA.take (k + 1)) = cntF F (isA.take k) + if (F : Int) ≤ isA.getD k 0 then 1 else 0 := by
     rw [List.take_add_one, List.getElem?_eq_getElem hlt, Option.toList_some, show [isA[k]] = isA[k] :: [] from rfl, cntF_snoc, List.getD_eq_getElem?_getD, List.getElem?_eq_getElem hlt]; rfl
    have hck : cntF F (isA.take k) ≤ k := Nat.le_trans List.countP_le_length (by rw [List.length_take]; omega)
    generalize isA.getD k 0 = x at *
    generalize cntF F (isA.take k) = cc at *
    have i0 : (0 : Int) ≤ (k : Int) := by omega
    have i1 : (k : Int) < (isA.length : Int) := by omega
    have i2 : (k : Int) ≤ 64 := by omega
    have i3 : (cc : Int) ≤ 64 := by omega
    clear hcell
    by_cases hx : (F : Int) ≤ x
    · rw [if_pos hx] at hnx
      replace hnx := Lib.hid hnx
      go_wp2_with fail
      go_roundw
      case rel => exact ⟨k + 1, by omega, by rw [hnx.out]; rfl, rfl, trivial⟩
      case measure => simp [intOf]; omega
    · rw [if_neg hx] at hnx
      replace hnx := Lib.hid hnx
      go_wp2_with fail
      go_roundw
      case rel => exact ⟨k + 1, by omega, by rw [hnx.out]; rfl, rfl, trivial⟩
      case measure => simp [intOf]; omega
  · have i0 : ¬ (k : Int) < (isA.length : Int) := by omega
    have hke : isA.take k = isA := List.take_of_length_le (by omega)
    rw [hke, q4.out]
    clear hke
    have hFlt : F < ts.length := by omega
    obtain ⟨b, o, A1, c1', e1, hbB, -, z0, z1, z2, -⟩ := voi_at s8.out F hFlt
    cases e1
    have hH0 : HullF ts F F (voiT ts F).2.2.1 (voiT ts F).2.2.2 := by
     obtain ⟨p1, p2⟩ := hbnd.out F (Nat.le_refl _) hFlt
     exact ⟨Int.le_refl _, Int.le_refl _, p1, p2, fun j j1 j2 => by omega⟩
    replace hH0 := Lib.hid hH0
    have htF := Lib.hid (hhon.out F (Nat.le_refl _) hFlt).2
    generalize hlo0 : (voiT ts F).2.2.1 = lo0 at *
    generalize hhi0 : (voiT ts F).2.2.2 = hi0 at *
    have i1 : (0 : Int) ≤ (F : Int) := by omega
    have i2 : (F : Int) < (ts.length : Int) := by omega
    have hal := balloc w8 (.cells #[.int .i64 lo0, .int .i64 hi0] 24)
    have x16 := Box.new w8 24 [.int .i64 lo0, .int .i64 hi0]
    change Box (w8.alloc (.cells #[.int .i64 lo0, .int .i64 hi0] 24)) _ _ _ at x16
    have x11 := x11'.out.below hal
    have hne : Hid (g11 ≠ w8.heap.size) := Nat.ne_of_lt x11'.out.lt
    have hg16 : Hid (w8.heap.size ≤ w8.heap.size) := Nat.le_refl _
    have hb0 : Hid (Below w8.heap.size w8 (w8.alloc (.cells #[.int .i64 lo0, .int .i64 hi0] 24))) := hal
    have hn36 : Hid (ts.length ≤ 5) := hn5
    clear hal x11' sA8
    go_upto_region 16 with (fail)
    generalize w8.alloc (.cells #[.int .i64 lo0, .int .i64 hi0] 24) = W9 at *
    generalize hg16e : w8.heap.size = g16 at x16 hne hg16 ⊢
    replace hg16e := Lib.hid hg16e
    clear z0 z1 z2 i0
    replace x11 := Lib.hid x11
    replace x16 := Lib.hid x16
    go_wp2_with fail
    go_loopw [17] (fun i wr => ∃ (k : Nat) (lo hi : Int), F ≤ k ∧ k ≤ ts.length ∧ i = .int .i64 k ∧ Hid (HullF ts F k lo hi) ∧ Hid (Box wr g16 24 [.int .i64 lo, .int .i64 hi]) ∧ Hid (Box wr g11 24 [.int .i64 loA, .int .i64 hiA]) ∧ Hid (Below w8.heap.size w8 wr)) (fun i _ => ts.length - (intOf i).toNat)
    case atStart => exact ⟨F, lo0, hi0, by omega, by omega, rfl, hH0, x16, x11, hb0⟩
    case round =>
     clear x11 x16
     obtain ⟨k, lo, hi, hFk, hk, rfl, hH, x16, x11, hb⟩ := hrel
     by_cases hlt : k < ts.length
     · obtain ⟨b', o', A2, c2', e1, hbB', -, z0, z1, z2, -⟩ := voi_at (s8.out.below hb.out) k hlt
       cases e1
       have hbk := Lib.hid (hbnd.out k hFk hlt)
       have hHn : Hid (HullF ts F (k + 1) (min lo (voiT ts k).2.2.1) (max hi (voiT ts k).2.2.2)) := by
        obtain ⟨p1, p2, p3, p4, p5⟩ := hH.out
        obtain ⟨p6, p7⟩ := hbk.out
        refine ⟨by omega, by omega, by omega, by omega, fun j j1 j2 => ?_⟩
        by_cases hj : j < k
        · have := p5 j j1 hj
          omega
        · have : j = k := by omega
          subst this
          omega
       generalize (voiT ts k).2.2.1 = sa at *
       generalize (voiT ts k).2.2.2 = sb at *
       obtain ⟨k0, k1, k2, k3⟩ := box2_cells x16.out
       have j0 : (k : Int) < (ts.length : Int) := by omega
       have j1 : (0 : Int) ≤ (k : Int) := by omega
       have hKb : Hid (b < w8.heap.size) := hbB
       have z9 : Hid (Box (((wr.setCell ⟨g16, 0, none⟩ (.int .i64 (min lo sa))).setCell ⟨g16, 1, none⟩ (.int .i64 (max hi sb))).drew) g16 24 [.int .i64 (min lo sa), .int .i64 (max hi sb)]) := (box_set2 x16.out _ _).below (bdrew _)
       have z7 : Hid (Box (((wr.setCell ⟨g16, 0, none⟩ (.int .i64 (min lo sa))).setCell ⟨g16, 1, none⟩ (.int .i64 (max hi sb))).drew) g11 24 [.int .i64 loA, .int .i64 hiA]) := ((x11.out.other hne.out).other hne.out).below (bdrew _)
       have zb : Hid (Below w8.heap.size w8 (((wr.setCell ⟨g16, 0, none⟩ (.int .i64 (min lo sa))).setCell ⟨g16, 1, none⟩ (.int .i64 (max hi sb))).drew)) := bgo (below_set2 hb.out (Nat.le_of_eq hg16e.out) _ _) (bdrew _)
       go_upto_region 19 with (fail)
       go_big_region
       all_goals
        go_wp2_with fail
        exact ⟨⟨k + 1, _, _, by omega, by omega, by go_num, hHn, z9, z7, zb⟩, by simp [intOf]; omega⟩
     · have j0 : ¬ (k : Int) < (ts.length : Int) := by omega
       have hke : Hid (k = ts.length) := by show _ = _; omega
       have hHe : Hid (HullF ts F ts.length lo hi) := by have := hH.out; rw [hke.out] at this; exact this
       have hii := (hullF_inside (t := 60 + y) hHe.out (by rw [hlo0, hhi0]; exact htF.out) q1 q2 q5.out q6.out).1
       have iwn : IntKind.i64.wrap ((ts.length : Int) - (F : Int)) = (ts.length : Int) - (F : Int) := by rw [IntKind.wrap_i64]; omega
       have hcast : ((ts.length - F : Nat) : Int) = (ts.length : Int) - (F : Int) := by omega
       rw [hcast]
       clear hii hcast
       go_wp2_with fail
       refine (hkn.out _).mono ?_
       rintro e w10 ⟨rfl, hbk⟩
       have y11 := x11.out.below hbk
       have y16 := x16.out.below hbk
       have hbn := Lib.hid (bgo hb.out hbk)
       have hins := Lib.hid (fun W => rinside_any loA hiA lo hi W)
       have q3 : inS loA hiA lo hi = true := (hullF_inside (t := 60 + y) hHe.out (by rw [hlo0, hhi0]; exact htF.out) q1 q2 q5.out q6.out).1
       rw [q3] at hins
       obtain ⟨p0, p1⟩ := boxT2 y11
       obtain ⟨p2, p3⟩ := boxT2 y16
       clear q3 hbk y11 y16
       dsimp only
       go_wp2_with fail
       refine (hins.out _).mono ?_
       rintro e w11 ⟨rfl, hb6⟩
       replace hb6 := Lib.hid hb6
       dsimp only
       go_wp2_with fail
       go_returns
       exact ⟨by simp, bgo hb5.out (bgo hbn.out hb6.out)⟩
end Go.Proofs.YtjgepckncogdaaaGreat

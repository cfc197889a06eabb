/- What a law leans on beyond the base: contracts, plain functions, walks. Conditions: those of each theorem. -/
import Derived.Test.YtjgepckncogdaaaGreatNVoF
import Derived.Test.YtjgepckncogdaaaGreatNEraT
import Derived.Test.YtjgepckncogdaaaGreatTCtZ
set_option linter.unusedVariables false
set_option linter.unusedSimpArgs false
namespace Go.Proofs.YtjgepckncogdaaaGreat
open Go Go.RowKit
set_option linter.unusedVariables false
set_option linter.unusedSimpArgs false
attribute [local go_sem ↓] Go.wp_at_zero Go.wp_at_succ
def VoiOkT (v f truth : Int) (ts : List VoiT) : Prop :=
 ∀ j, j < ts.length → (voiT ts j).2.1.length = 1 ∧ (∀ c ∈ (voiT ts j).2.1, c.2.1.length ≤ 1048576 ∧ c.2.2.2.2.length ≤ 1048576) ∧ (f ≤ (j : Int) → ∃ a b, (voiT ts j).2.1 = honL v ((a, b) :: []) 1 ∧ -700 + truth ≤ a ∧ a ≤ (voiT ts j).2.2.1 ∧ (voiT ts j).2.2.1 ≤ truth ∧ truth ≤ (voiT ts j).2.2.2 ∧ (voiT ts j).2.2.2 ≤ b ∧ b ≤ truth + 700)
theorem voi_snocT (ts : List VoiT) (t : VoiT) (j : Nat) : voiT (ts ++ t :: []) j = if j < ts.length then voiT ts j else if j = ts.length then t else noVoi := by
 unfold voiT
 rw [List.getD_eq_getElem?_getD, List.getD_eq_getElem?_getD]
 by_cases h : j < ts.length
 · rw [if_pos h, List.getElem?_append_left h]
 · rw [if_neg h, List.getElem?_append_right (by omega)]
   by_cases h2 : j = ts.length
   · rw [if_pos h2, h2]; simp
   · rw [if_neg h2, List.getElem?_eq_none (by simp; omega)]; rfl
theorem VoiOkT.snoc {v f truth : Int} {ts : List VoiT} (h : VoiOkT v f truth ts) {t : VoiT} (h1 : t.2.1.length = 1) (h2 : ∀ c ∈ t.2.1, c.2.1.length ≤ 1048576 ∧ c.2.2.2.2.length ≤ 1048576) (h3 : f ≤ (ts.length : Int) → ∃ a b, t.2.1 = honL v ((a, b) :: []) 1 ∧ -700 + truth ≤ a ∧ a ≤ t.2.2.1 ∧ t.2.2.1 ≤ truth ∧ truth ≤ t.2.2.2 ∧ t.2.2.2 ≤ b ∧ b ≤ truth + 700) : VoiOkT v f truth (ts ++ t :: []) := by
 intro j hj
 rw [List.length_append] at hj
 rw [voi_snocT]
 by_cases h : j < ts.length
 · rw [if_pos h]; rename_i h0; exact h0 j h
 · have : j = ts.length := by simp at hj; omega
   subst this
   rw [if_neg h, if_pos rfl]
   exact ⟨h1, h2, h3⟩
theorem voi_vaccT {v f truth : Int} {ts : List VoiT} (h : VoiOkT v f truth ts) (t0 : 0 ≤ truth) (t1 : truth ≤ 10000) {j : Nat} (hj : j < ts.length) (hf : f ≤ (j : Int)) : vacc (keyG (seedC v 0) 0) (voiT ts j) = 0 ∧ (voiT ts j).2.2.1 ≤ truth ∧ truth ≤ (voiT ts j).2.2.2 ∧ -800 ≤ (voiT ts j).2.2.1 ∧ (voiT ts j).2.2.2 ≤ 11000 := by
 obtain ⟨-, -, h3⟩ := h j hj
 obtain ⟨a, b, e, a1, a2, a3, a4, a5, a6⟩ := h3 hf
 refine ⟨?_, a3, a4, by omega, by omega⟩
 have hac := acc_hon (v := v) (ws := (a, b) :: []) (lo := (voiT ts j).2.2.1) (hi := (voiT ts j).2.2.2) (by simp) (by simp) (fun k hk => by
  obtain rfl : k = 0 := by simp at hk; omega
  rw [vS_iff]; simp; omega) (by rw [vS_iff]; omega)
 unfold vacc
 rw [e]
 refine hac.trans (if_pos ?_)
 rw [insK_each]
 intro k hk
 obtain rfl : k = 0 := by simp at hk; omega
 rw [inS_iff, vS_iff, vS_iff]
 simp
 omega
def VoAT (wr : World) (g g15 g16 : Nat) (u : Value) (l : List Int) (f truth : Int) (i : Nat) (W : World) : Prop :=
 ∃ lo hi a b k, Box W g15 24 [.int .i64 lo, .int .i64 hi] ∧ Box W g16 24 [.int .i64 a, .int .i64 b] ∧ TapeAt W g u l k ∧ wr.grownBy W (some g) ∧ vS a b = true ∧ (f ≤ (i : Int) → -700 + truth ≤ a ∧ a ≤ lo ∧ lo ≤ truth ∧ truth ≤ hi ∧ hi ≤ b ∧ b ≤ truth + 700)
theorem voi_lensT {v f truth : Int} {ts : List VoiT} (h : VoiOkT v f truth ts) : ∀ t ∈ ts, t.2.1.length ≤ 1048576 ∧ ∀ c ∈ t.2.1, c.2.1.length ≤ 1048576 ∧ c.2.2.2.2.length ≤ 1048576 := by
 intro t ht
 obtain ⟨j, hj⟩ := List.mem_iff_getElem?.1 ht
 have hjl := (List.getElem?_eq_some_iff.1 hj).1
 have e : voiT ts j = t := by have := voiT_get ts j hjl; rw [hj] at this; exact (Option.some.inj this).symm
 obtain ⟨h1, h2, -⟩ := h j hjl
 rw [e] at h1 h2
 exact ⟨by omega, h2⟩
set_option maxRecDepth 100000 in
set_option maxHeartbeats 8000000 in
theorem tfirst_law (v : Int) (wf0 : (Lit.int .i64 v).wf = true) (B : Nat) (u : Value) (l : List Int) (w : World) (s : SeesT w B u l) (hB : B ≤ w.heap.size) :
 Calls Tryz.prog 11 #[.int .i64 v, u] w fun e w' => e = .returned (.bool true) ∧ Below w.heap.size w w' := by
 obtain ⟨Ar, cr, rfl, -, -⟩ := s.mk_
 clear wf0
 have hkn := Lib.hid (fun W => awake_any W)
 have hnew := Lib.hid (tnew_any _ l w (Sees.more s hB))
 have hin := Lib.hid (fun g (n : Int) (hn : 1 ≤ n) (hn2 : n ≤ 1048576) W k (h : TapeAt W g (.slice Ar l.length cr) l k) => tint_any g _ l k n W h hn hn2)
 clear s hB
 go_enter Tryz.func11, Tryz.ntmps11
 go_wp2_with fail
 refine hnew.out.mono ?_
 rintro e w1 ⟨rfl, t1, hb1, hgl1⟩
 have hi1 := Lib.hid (hin.out _ 4 (by omega) (by omega) w1 0 t1)
 have a1 := Int.emod_nonneg (l.getD 0 0) (show (4 : Int) ≠ 0 by omega)
 have a2 := Int.emod_lt_of_pos (l.getD 0 0) (show (0 : Int) < 4 by omega)
 obtain ⟨n, hN⟩ : ∃ n : Nat, 1 + l.getD 0 0 % 4 = (n : Int) := ⟨(1 + l.getD 0 0 % 4).toNat, by omega⟩
 generalize l.getD 0 0 % 4 = x at *
 obtain ⟨g, hg⟩ : ∃ g, g = w.heap.size := ⟨_, rfl⟩
 rw [← hg] at t1 hi1 hgl1 ⊢
 replace hg := Lib.hid hg
 replace hb1 := Lib.hid hb1
 clear hnew t1
 have hn1 : 1 ≤ n := by omega
 have hn5 : n ≤ 4 := by omega
 replace hN := Lib.hid hN
 dsimp only
 go_wp2_with fail
 refine hi1.out.mono ?_
 rintro e w2 ⟨rfl, t2, g2⟩
 clear hi1
 dsimp only
 go_wp2_with fail
 rw [hN.out]
 clear hN a1 a2
 have hi2 := Lib.hid (hin.out g (((n : Int) + 1) / 2) (by omega) (by omega) w2 _ t2)
 have b1 := Int.emod_nonneg (l.getD (stepK l 0) 0) (show ((n : Int) + 1) / 2 ≠ 0 by omega)
 have b2 := Int.emod_lt_of_pos (l.getD (stepK l 0) 0) (show (0 : Int) < ((n : Int) + 1) / 2 by omega)
 obtain ⟨F, hF⟩ : ∃ F : Nat, l.getD (stepK l 0) 0 % (((n : Int) + 1) / 2) = (F : Int) := ⟨(l.getD (stepK l 0) 0 % (((n : Int) + 1) / 2)).toNat, by omega⟩
 rw [hF] at b1 b2 hi2
 have hFn : 2 * F < n := by omega
 replace g2 := Lib.hid g2
 clear t2 b1 b2 hF
 refine hi2.out.mono ?_
 rintro e w3 ⟨rfl, t3, g3⟩
 have hi3 := Lib.hid (hin.out g 500 (by omega) (by omega) w3 _ t3)
 have c1 := Int.emod_nonneg (l.getD (stepK l (stepK l 0)) 0) (show (500 : Int) ≠ 0 by omega)
 have c2 := Int.emod_lt_of_pos (l.getD (stepK l (stepK l 0)) 0) (show (0 : Int) < 500 by omega)
 generalize l.getD (stepK l (stepK l 0)) 0 % 500 = y at *
 replace g2 := Lib.hid (ggo g2.out g3)
 clear t3 g3 hi2
 dsimp only
 go_wp2_with fail
 refine hi3.out.mono ?_
 rintro e WS ⟨rfl, t4, g4⟩
 replace g2 := Lib.hid (ggo g2.out g4)
 have hms := Lib.hid (fun (m : Int) (hm : 0 < m) k => And.intro (Int.emod_nonneg (l.getD k 0) (show m ≠ 0 by omega)) (Int.emod_lt_of_pos (l.getD k 0) hm))
 obtain ⟨truth, htr⟩ : ∃ t, t = 1000 + y := ⟨_, rfl⟩
 have tr1 : 1000 ≤ truth := by omega
 have tr2 : truth < 1500 := by omega
 have hgl : Hid (g < WS.heap.size) := t4.1.lt
 obtain ⟨f, hfe⟩ : ∃ f : Int, f = (F : Int) := ⟨_, rfl⟩
 have hf : 0 ≤ f := by omega
 have hn : n ≤ 4 := hn5
 generalize hks : stepK l (stepK l (stepK l 0)) = k3 at *
 generalize hu : (Value.slice Ar l.length cr) = u at *
 obtain ⟨ti, hti, htz, hts, htb⟩ := info_parts voice_info
 replace hti := Lib.hid hti
 replace htz := Lib.hid htz
 replace hts := Lib.hid hts
 replace htb := Lib.hid htb
 replace t4 := Lib.hid t4
 clear g4 hi3 c1 c2
 dsimp only
 go_wp2_with fail
 rw [← htr]
 replace htr := Lib.hid htr
 go_loopw [9, 10, 11] (fun o rt i wr => ∃ (ts : List VoiT) (R : Bs) (k : Nat), ts.length ≤ n ∧ i = .int .i64 (ts.length : Int) ∧ Hid (OwnV wr WS.heap.size o ts) ∧ Hid (SeesB wr wr.heap.size rt R) ∧ Hid (0 < ts.length → R = keyG (seedC v 0) 0) ∧ Hid (VoiOkT v f truth ts) ∧ Hid (TapeAt wr g u l k) ∧ Hid (WS.grownBy wr (some g))) (fun _ _ i _ => n - (intOf i).toNat)
 case atStart => exact ⟨[], [], k3, by simp, rfl, OwnV.nil _ _, SeesB.nil _ _, fun h => absurd h (by simp), fun j hj => absurd hj (by simp), t4.out, grown_of_below (Below.refl _ _) _⟩
 case round =>
  obtain ⟨ts, R, k, hk, rfl, hO, hR, hRk, hok, hT, hgw⟩ := hrel
  obtain ⟨Ao, co, rfl, -, -⟩ := (Sees.of_own hO.out.1).mk_
  obtain ⟨Ar', cr', rfl, -, -⟩ := hR.out.mk_
  by_cases hlt : ts.length < n
  · have i0 : ((ts.length : Nat) : Int) < (n : Int) := by omega
    have hz : Hid (g < wr.heap.size) := Nat.lt_of_lt_of_le hgl.out hgw.out.size
    have h1 := Lib.hid (hin.out g 30 (by omega) (by omega) wr k hT.out)
    obtain ⟨a1, a2⟩ := hms.out 30 (by omega) k
    clear hR hRk
    go_wp2_with fail
    refine h1.out.mono ?_
    rintro e w1 ⟨rfl, T1, g1⟩
    have h2 := Lib.hid (hin.out g 30 (by omega) (by omega) w1 _ T1)
    obtain ⟨b1, b2⟩ := hms.out 30 (by omega) (stepK l k)
    generalize l.getD k 0 % 30 = xa at *
    generalize stepK l k = kk1 at *
    replace g1 := Lib.hid g1
    clear h1 T1 hT
    dsimp only
    go_wp2_with fail
    refine h2.out.mono ?_
    rintro e w2 ⟨rfl, T2, g2⟩
    have gA := ggo g1.out g2
    generalize l.getD kk1 0 % 30 = xb at *
    have hal := balloc w2 (.cells #[.int .i64 (truth - xa), .int .i64 (truth + xb)] 24)
    have x15 := Box.new w2 24 [.int .i64 (truth - xa), .int .i64 (truth + xb)]
    change Box (w2.alloc (.cells #[.int .i64 (truth - xa), .int .i64 (truth + xb)] 24)) _ _ _ at x15
    have T3 := T2.grown hal
    have gB := Lib.hid (ggo gA (grown_of_below hal (some g)))
    have hg15 : Hid (wr.heap.size ≤ w2.heap.size) := gA.size
    clear h2 g1 g2 gA T2 hal
    dsimp only
    go_upto_region 11 with (fail)
    generalize w2.alloc (.cells #[.int .i64 (truth - xa), .int .i64 (truth + xb)] 24) = W3 at *
    generalize w2.heap.size = g15 at *
    have hne : Hid (g15 ≠ g) := by have := hg15.out; have := hz.out; show _ ≠ _; omega
    have hal := balloc W3 (.cells #[.int .i64 900, .int .i64 1600] 24)
    have x16 := Box.new W3 24 [.int .i64 900, .int .i64 1600]
    change Box (W3.alloc (.cells #[.int .i64 900, .int .i64 1600] 24)) _ _ _ at x16
    have T6 := T3.grown hal
    have gD := ggo gB.out (grown_of_below hal (some g))
    have hne56 : Hid (g15 ≠ W3.heap.size) := Nat.ne_of_lt x15.lt
    replace x15 := x15.below hal
    have hg16 : Hid (wr.heap.size ≤ W3.heap.size) := gB.out.size
    generalize stepK l kk1 = kk3 at *
    clear gB T3 hal
    (try dsimp only)
    go_upto_region 12 with (fail)
    generalize W3.alloc (.cells #[.int .i64 900, .int .i64 1600] 24) = W6 at *
    generalize W3.heap.size = g16 at *
    generalize hI : ts.length = i at *
    go_upto_if 55 with (fail)
    go_cut [] (fun W => VoAT wr g g15 g16 u l f truth i W)
    case first =>
     have hgg15 : Hid (g < g15) := by have := hg15.out; have := hz.out; show _ < _; omega
     have hgg16 : Hid (g < g16) := by have := hg16.out; have := hz.out; show _ < _; omega
     have hne6 : Hid (g16 ≠ g) := by have := hgg16.out; show _ ≠ _; omega
     by_cases hif : (i : Int) < f
     · have h5 := Lib.hid (hin.out g 2000 (by omega) (by omega) W6 _ T6)
       obtain ⟨e1, e2⟩ := hms.out 2000 (by omega) kk3
       clear T6
       go_wp2_with fail
       refine h5.out.mono ?_
       rintro e w7 ⟨rfl, T7, g7⟩
       have y15 : Box w7 g15 24 [.int .i64 (truth - xa), .int .i64 (truth + xb)] := (g7.block g15 x15.lt (fun e => hne.out (Option.some.inj e))).trans x15
       have y16 : Box w7 g16 24 [.int .i64 900, .int .i64 1600] := (g7.block g16 x16.lt (fun e => hne6.out (Option.some.inj e))).trans x16
       generalize l.getD kk3 0 % 2000 = p at *
       have gE0 := ggo gD g7
       obtain ⟨k4, k5, f4, f5⟩ := box2_cells y15
       have v15 := box_set2 y15 (.int .i64 p) (.int .i64 0)
       have v16 := (y16.other (G := g15) (j := 0) (v := .int .i64 p) hne56.out.symm).other (G := g15) (j := 1) (v := .int .i64 0) hne56.out.symm
       have T8' := tape_set1V (j := 1) (tape_set1V (j := 0) T7 hgg15.out (.int .i64 p)) hgg15.out (.int .i64 0)
       have gE := grown_appV (grown_appV gE0 (setCell_grown w7 g15 0 (.int .i64 p)) (fun j hj => by cases hj; exact hg15.out)) (setCell_grown _ g15 1 (.int .i64 0)) (fun j hj => by cases hj; exact hg15.out)
       clear h5 y15 y16 T7 g7 gE0 gD x15 x16
       dsimp only
       go_upto_region 14 with (fail)
       clear k4 k5 f4 f5
       generalize (w7.setCell ⟨g15, 0, none⟩ (.int .i64 p)).setCell ⟨g15, 1, none⟩ (.int .i64 0) = W8 at *
       have x15d := v15.below (bdrew W8)
       have x16d := v16.below (bdrew W8)
       replace gE := Lib.hid (ggo gE (grown_of_below (bdrew W8) (some g)))
       have h6 := Lib.hid (hin.out g 30 (by omega) (by omega) W8.drew _ T8'.drew)
       obtain ⟨q1, q2⟩ := hms.out 30 (by omega) (stepK l kk3)
       generalize stepK l kk3 = kk5 at *
       generalize l.getD kk5 0 % 30 = q at *
       have y15 := v15
       clear T8' v15 v16
       refine wp_region_J (fun W' : World => W'.cell? ⟨g15, 0, none⟩ = some (.int .i64 p)) 6 (by kernel_rfl) ?_ (fun hHeld => ?_)
       · (try dsimp only); (first | exact (boxT2 y15).1 | exact (boxT2 x15d).1)
       refine wpAnyJ_take0 (i := 0) (v := ?_) rfl (by kernel_rfl) (by kernel_rfl) (by kernel_rfl) (fun _ _ _ h => h) (by rfl) (Or.inl ⟨by rfl, ?_⟩) (by assumption) ?_
       rotate_left 1
       · intro w hSw; (try dsimp only at hSw); go_simp <;> (try with_reducible rfl)
       try simp only [Act.put, List.getElem_toArray, List.getElem_cons_succ, List.getElem_cons_zero, List.setIfInBounds_toArray, List.set_cons_zero, List.set_cons_succ]
       refine wpAnyJ_take (i := 1) (v := ?_) rfl (by kernel_rfl) (by kernel_rfl) (by kernel_rfl) (fun _ _ _ h => h) (by rfl) rfl (by kernel_rfl) (by kernel_rfl) (Or.inl ⟨by rfl, ?_⟩) (by assumption) ?_
       rotate_left 1
       · intro w hSw; (try dsimp only at hSw); go_simp <;> (try with_reducible rfl)
       try simp only [Act.put, List.getElem_toArray, List.getElem_cons_succ, List.getElem_cons_zero, List.setIfInBounds_toArray, List.set_cons_zero, List.set_cons_succ]
       refine wpAnyJ_take0 (i := 2) (v := ?_) rfl (by kernel_rfl) (by kernel_rfl) (by kernel_rfl) (fun _ _ _ h => h) (by rfl) (Or.inl ⟨by rfl, ?_⟩) (by assumption) ?_
       rotate_left 1
       · intro w hSw; (try dsimp only at hSw); go_simp <;> (try with_reducible rfl)
       try simp only [Act.put, List.getElem_toArray, List.getElem_cons_succ, List.getElem_cons_zero, List.setIfInBounds_toArray, List.set_cons_zero, List.set_cons_succ]
       refine wpAnyJ_ready (rs := [3]) (by kernel_rfl) (by simp) ?_
       refine AllReadyJ.cons (o := _) rfl (fun Kq hKq => ?_) ?_
       · go_simp
         go_at_call 37
         with_reducible refine h6.out.mono ?_
         rintro e w8 ⟨rfl, T8, g8⟩
         have y15 : Box w8 g15 24 [.int .i64 p, .int .i64 0] := (g8.block g15 x15d.lt (fun e => hne.out (Option.some.inj e))).trans x15d
         have y16 : Box w8 g16 24 [.int .i64 900, .int .i64 1600] := (g8.block g16 x16d.lt (fun e => hne6.out (Option.some.inj e))).trans x16d
         obtain ⟨k4, k5, f4, f5⟩ := box2_cells y15
         go_wp2_with fail
         refine hKq.out _ _ ?_ (fun hHeld => ?_)
         · intro _; (try dsimp only); (first | exact (boxT2 y15).1 | exact (boxT2 x15d).1)
         clear hKq Kq
         try simp only [Act.put, List.getElem_toArray, List.getElem_cons_succ, List.getElem_cons_zero, List.setIfInBounds_toArray, List.set_cons_zero, List.set_cons_succ]
         refine wpAnyJ_take0 (i := 4) (v := ?_) rfl (by kernel_rfl) (by kernel_rfl) (by kernel_rfl) (fun _ _ _ h => h) (by rfl) (Or.inl ⟨by rfl, ?_⟩) (by assumption) ?_
         rotate_left 1
         · intro w hSw; (try dsimp only at hSw); go_simp <;> (try with_reducible rfl)
         try simp only [Act.put, List.getElem_toArray, List.getElem_cons_succ, List.getElem_cons_zero, List.setIfInBounds_toArray, List.set_cons_zero, List.set_cons_succ]
         refine wpAnyJ_take0 (i := 5) (v := ?_) rfl (by kernel_rfl) (by kernel_rfl) (by kernel_rfl) (fun _ _ _ h => h) (by rfl) (Or.inl ⟨by rfl, ?_⟩) (by assumption) ?_
         rotate_left 1
         · intro w hSw; (try dsimp only at hSw); go_simp <;> (try with_reducible rfl)
         try simp only [Act.put, List.getElem_toArray, List.getElem_cons_succ, List.getElem_cons_zero, List.setIfInBounds_toArray, List.set_cons_zero, List.set_cons_succ]
         refine wpAnyJ_ready (rs := [6]) (by kernel_rfl) (by simp) ?_
         refine AllReadyJ.cons (o := _) rfl (fun Kq hKq => ?_) ?_
         · go_simp
           refine hKq.out _ _ ?_ (fun hHeld => ?_)
           · intro hl; exact absurd hl (by decide)
           clear hKq Kq
           try simp only [Act.put, List.getElem_toArray, List.getElem_cons_succ, List.getElem_cons_zero, List.setIfInBounds_toArray, List.set_cons_zero, List.set_cons_succ]
           refine wpAnyJ_done (by kernel_rfl) ?_ _
           have z15 := y15.set 1 (.int .i64 (p + q))
           simp only [List.set_cons_zero, List.set_cons_succ] at z15
           have z16 := y16.other (G := g15) (j := 1) (v := .int .i64 (p + q)) hne56.out.symm
           have T9 := tape_set1V (j := 1) T8 hgg15.out (.int .i64 (p + q))
           have g9 := grown_appV (ggo gE.out g8) (setCell_grown w8 g15 1 (.int .i64 (p + q))) (fun j hj => by cases hj; exact hg15.out)
           clear k4 k5 f4 f5 hHeld y15 y16 T8 g8 x15d x16d
           obtain ⟨k4, k5, f4, f5⟩ := box2_cells z16
           have v16 := box_set2 z16 (.int .i64 0) (.int .i64 3000)
           have v15 := (z15.other (G := g16) (j := 0) (v := .int .i64 0) hne56.out).other (G := g16) (j := 1) (v := .int .i64 3000) hne56.out
           have T12 := tape_set1V (j := 1) (tape_set1V (j := 0) T9 hgg16.out (.int .i64 0)) hgg16.out (.int .i64 3000)
           have gH := grown_appV (grown_appV g9 (setCell_grown _ g16 0 (.int .i64 0)) (fun j hj => by cases hj; exact hg16.out)) (setCell_grown _ g16 1 (.int .i64 3000)) (fun j hj => by cases hj; exact hg16.out)
           have hvs : Hid (vS 0 3000 = true) := by show _ = _; rw [vS_iff]; omega
           have hfi : Hid (f ≤ (i : Int) → -700 + truth ≤ 0 ∧ 0 ≤ p ∧ p ≤ truth ∧ truth ≤ p + q ∧ p + q ≤ 3000 ∧ 3000 ≤ truth + 700) := fun h => absurd h (by omega)
           clear z15 z16 T9 g9
           go_wp2_with fail
           go_meet
           exact ⟨p, p + q, 0, 3000, _, v15, v16, T12, gH, hvs.out, hfi.out⟩
         exact AllReadyJ.nil
       exact AllReadyJ.nil
     · have hvs : Hid (vS 900 1600 = true) := by show _ = _; rw [vS_iff]; omega
       have hfi : Hid (f ≤ (i : Int) → -700 + truth ≤ 900 ∧ 900 ≤ truth - xa ∧ truth - xa ≤ truth ∧ truth ≤ truth + xb ∧ truth + xb ≤ 1600 ∧ 1600 ≤ truth + 700) := fun h => by omega
       go_wp2_with fail
       go_meet
       exact ⟨_, _, _, _, _, x15, x16, T6, gD, hvs.out, hfi.out⟩
    case rest =>
     obtain ⟨lo, hi, a, b, k6, x15, x16, T6, gD, hvs, hfi⟩ := hcut
     obtain ⟨WA, rfl⟩ : ∃ W : World, W = wc := ⟨_, rfl⟩
     obtain ⟨k0, k1⟩ := boxT2 x16
     have hal := balloc WA (.cells #[.int .i64 a, .int .i64 b] 24)
     have hss : SeesS (WA.alloc (.cells #[.int .i64 a, .int .i64 b] 24)) (WA.heap.size + 1) (.slice (some ⟨WA.heap.size, 0, none⟩) 1 1) ((a, b) :: []) := rec_lit WA 24 [.int .i64 a, .int .i64 b]
     have hcer := Lib.hid (kcerts2_any v (WA.heap.size + 1) _ ((a, b) :: []) (WA.alloc (.cells #[.int .i64 a, .int .i64 b] 24)) hss (by rw [World.size_alloc]; exact Nat.le_refl _) (by simp) (by simp) (fun k hk => by
      obtain rfl : k = 0 := by simp at hk; omega
      exact hvs))
     replace x15 := x15.below hal
     replace T6 := T6.grown hal
     replace gD := ggo gD (grown_of_below hal (some g))
     replace hfi := Lib.hid hfi
     clear x16 hss hal hvs
     go_wp2_with fail
     refine hcer.out.mono ?_
     generalize WA.alloc (.cells #[.int .i64 a, .int .i64 b] 24) = WB at *
     rintro e w7 ⟨v17, v18, G, rfl, oC0, rC, fC, hbC, hG1, hG2⟩
     have oC : OwnRF w7 G 70 v17 5 1 (certS (honL v ((a, b) :: []) 1)) := oC0
     obtain ⟨g3, c3, rfl, hgb, hgl3, hc1, hc2⟩ := oC.at_ (by omega)
     obtain ⟨A18, c18, rfl, -, -⟩ := SeesB.mk_ rC
     have hA18 : Hid (∀ a, A18 = some a → a.block < G) := fun a ha => by
      obtain ⟨b', o', e', hb', -⟩ := SeesB.at_ rC (by rw [keyG_len]; omega)
      rw [e'] at ha
      cases ha
      exact hb'
     have rC' : SeesB w7 w7.heap.size (.slice A18 (keyG (seedC v 0) 0).length c18) (keyG (seedC v 0) 0) := SeesB.more rC hG2
     have hzB : wr.heap.size ≤ WB.heap.size := gD.size
     have fC' := Lib.hid (fC.mono hzB)
     have hGz : Hid (wr.heap.size ≤ G) := Nat.le_trans hzB hG1
     replace x15 := x15.below hbC
     replace T6 := T6.grown hbC
     replace gD := ggo gD (grown_of_below hbC (some g))
     have hgG : Hid (g < G) := Nat.lt_of_lt_of_le hz.out hGz.out
     have hgb' := Lib.hid hgb
     clear hcer oC0 rC fC hbC hG1 k0 k1 hgb hgl3 hc1 hc2 hzB
     dsimp only
     go_upto_region 17 with (fail)
     have hcs : (honL v ((a, b) :: []) 1).length = 1 := honL_len v _ 1
     have hel : ∀ c ∈ honL v ((a, b) :: []) 1, c.2.1.length ≤ 1048576 ∧ c.2.2.2.2.length ≤ 1048576 := fun c hc => by
      unfold honL at hc
      rw [List.mem_map] at hc
      obtain ⟨k, -, rfl⟩ := hc
      exact ⟨by show (keyG _ _).length ≤ _; rw [keyG_len]; omega, by show (sigG _ _ _ _).length ≤ _; rw [sigG_len]; omega⟩
     have hhon : f ≤ (i : Int) → honL v ((a, b) :: []) 1 = honL v ((a, b) :: []) 1 := fun _ => rfl
     generalize hCS : honL v ((a, b) :: []) 1 = cs at *
     obtain ⟨WD, rfl⟩ : ∃ W : World, W = w7 := ⟨_, rfl⟩
     have rC := rC'
     have T8 := T6
     have gE := gD
     clear rC' T6 gD
     obtain ⟨k0, k1⟩ := boxT2 x15
     have hal := balloc WD (.cells #[.slice (some ⟨g3, 0, none⟩) 1 c3, .int .i64 lo, .int .i64 hi] 85)
     have hrec : Hid (Sees (WD.alloc (.cells #[.slice (some ⟨g3, 0, none⟩) 1 c3, .int .i64 lo, .int .i64 hi] 85)) (WD.heap.size + 1) (.slice (some ⟨WD.heap.size, 0, none⟩) 1 1) 3 1 [.slice (some ⟨g3, 0, none⟩) 1 c3, .int .i64 lo, .int .i64 hi]) := rec_lit WD 85 [.slice (some ⟨g3, 0, none⟩) 1 c3, .int .i64 lo, .int .i64 hi]
     have hO2 := (hO.out.tape gE hgl.out).below hal
     have hOlt : ∀ j, (Value.slice Ao i co).ownBlock = some j → j < wr.heap.size := fun j hj => by have := hO.out.1; rw [hI] at this; exact (this.lt j hj).2
     have oC2 := oC.below hal
     have gF := ggo gE (grown_of_below hal (some g))
     have T9 := T8.grown hal
     have rC2 := seesB_of rC (Nat.le_refl _) hal
     have hzz : Hid (WS.heap.size ≤ (WD.alloc (.cells #[.slice (some ⟨g3, 0, none⟩) 1 c3, .int .i64 lo, .int .i64 hi] 85)).heap.size) := Nat.le_trans hgw.out.size gF.size
     have hO3 := hO2.1
     rw [hI] at hO3
     replace hO3 := Lib.hid hO3
     clear oC x15 T8 gE hal rC
     go_wp2_with (at_builtin; refine wpList_append_sees (by rfl) _ _ 77 rfl WS.heap.size 85 ti _ 3 40 Tryz.underlying77 hti.out htz.out hts.out htb.out rfl (by omega) (.slice Ao i co) i _ rfl hO3.out _ _ 1 _ rfl hrec.out (by simp [Value.oneCell']) (by unfold maxLen; omega) (by omega) hzz.out ?_)
     intro v9 W9 o9 g9 d9
     obtain ⟨Bo, cb, rfl, -, -⟩ := (Sees.of_own o9).mk_
     have hO9 := hO2.app (lo := lo) (hi := hi) (by rw [hcs]; exact oC2) (Nat.le_trans hgw.out.size hGz.out) (fun j hj => Nat.lt_of_lt_of_le (hOlt j hj) hGz.out) (by rw [hI]; exact o9) g9 (by rw [World.size_alloc]; exact d9)
     have hok9 := VoiOkT.snoc hok.out (t := (.slice (some ⟨g3, 0, none⟩) 1 c3, cs, lo, hi)) hcs hel (fun h => by
      rw [hI] at h
      obtain ⟨h1, h2⟩ := And.intro (show cs = honL v ((a, b) :: []) 1 from hCS.symm) (hfi.out h)
      exact ⟨a, b, h1, h2⟩)
     have r9 := sees_grown_far rC2 fC'.out g9 (fun j hj => hOlt j hj)
     have T10 := T9.row g9 (fun j hj => by have := (hO3.out.lt j hj).1; have := hgl.out; omega)
     have gG := grown_appV (ggo hgw.out gF) g9 (fun j hj => (hO3.out.lt j hj).1)
     have hlen : (ts ++ (Value.slice (some ⟨g3, 0, none⟩) 1 c3, cs, lo, hi) :: []).length = i + 1 := by rw [List.length_append, hI]; rfl
     generalize ts ++ (Value.slice (some ⟨g3, 0, none⟩) 1 c3, cs, lo, hi) :: [] = ts2 at *
     replace hO9 := Lib.hid hO9
     replace hok9 := Lib.hid hok9
     replace r9 := Lib.hid r9
     replace T10 := Lib.hid T10
     replace gG := Lib.hid gG
     have hlen' : ts2.length ≤ n := by omega
     have e1 : ((i : Nat) : Int) + 1 = (ts2.length : Int) := by rw [hlen]; omega
     have iwi : IntKind.i64.wrap ((i : Int) + 1) = (i : Int) + 1 := by rw [IntKind.wrap_i64]; omega
     have iwj : (i : Int) < 1000 := by omega
     replace e1 := Lib.hid e1
     replace hlen := Lib.hid hlen
     replace hlen' := Lib.hid hlen'
     clear i0
     clear hO2 hO3 hOlt oC2 gF T9 rC2 o9 g9 d9 hrec k0 k1 hO hok hfi hhon hel hcs
     go_wp2_with fail
     go_roundw
     case rel => exact ⟨ts2, _, _, hlen'.out, by first | rfl | (rw [e1.out]) | (congr 1; have := e1.out; omega), hO9, r9, fun _ => rfl, hok9, T10, gG⟩
     case measure => have := hlen.out; simp [intOf]; omega
  · have i0 : ¬ ((ts.length : Nat) : Int) < (n : Int) := by omega
    have hkn2 : Hid (ts.length = n) := by show _ = _; omega
    have hR' : R = keyG (seedC v 0) 0 := hRk.out (by rw [hkn2.out]; omega)
    subst hR'
    subst hfe
    have hFn2 : 2 * F < ts.length := by rw [hkn2.out]; exact hFn
    have hln : ts.length ≤ 64 := by omega
    have hhon : ∀ k, F ≤ k → k < ts.length → vacc (keyG (seedC v 0) 0) (voiT ts k) = 0 ∧ (voiT ts k).2.2.1 ≤ truth ∧ truth ≤ (voiT ts k).2.2.2 := fun k h1 h2 => by
     obtain ⟨p1, p2, p3, -, -⟩ := voi_vaccT hok.out (by omega) (by omega) h2 (by omega)
     exact ⟨p1, p2, p3⟩
    have hbnd : ∀ k, F ≤ k → k < ts.length → -800 ≤ (voiT ts k).2.2.1 ∧ (voiT ts k).2.2.2 ≤ 11000 := fun k h1 h2 => by
     obtain ⟨-, -, -, p1, p2⟩ := voi_vaccT hok.out (by omega) (by omega) h2 (by omega)
     exact ⟨p1, p2⟩
    have hfA := Lib.hid (cvfirst_any wr.heap.size (.slice Ar' (keyG (seedC v 0) 0).length cr') (.slice Ao ts.length co) (keyG (seedC v 0) 0) ts (F : Int) wr hR.out hO.out.sees (Nat.le_refl _) (voi_lensT hok.out))
    have gZ := Lib.hid (ggo g2.out hgw.out)
    have hz : Hid (g < wr.heap.size) := Nat.lt_of_lt_of_le hgl.out hgw.out.size
    replace hhon := Lib.hid hhon
    replace hbnd := Lib.hid hbnd
    replace hFn2 := Lib.hid hFn2
    replace hln := Lib.hid hln
    clear hO hR hRk hok hgw g2
    go_wp2_with fail
    refine hfA.out.mono ?_
    rintro e w6 ⟨vA, cA, loA, hiA, isA, rfl, sA, fA, hb6⟩
    obtain ⟨rfl, q1, q2, -, -, q5, q6⟩ := truth_plain (t := truth) hln.out hFn2.out hhon.out fA
    have hlo : -800 ≤ loA := by
     obtain ⟨j, j1, j2, j3, -⟩ := q5
     have := (hbnd.out j j1 j2).1
     omega
    have hhi : hiA ≤ 11000 := by
     obtain ⟨j, j1, j2, -, j3⟩ := q6
     have := (hbnd.out j j1 j2).2
     omega
    obtain ⟨A6, c6, rfl, -, -⟩ := sA.mk_
    have hal := balloc w6 (.cells #[.int .i64 loA, .int .i64 hiA] 24)
    have x16 := Box.new w6 24 [.int .i64 loA, .int .i64 hiA]
    change Box (w6.alloc (.cells #[.int .i64 loA, .int .i64 hiA] 24)) _ _ _ at x16
    have hb7 := bgo hb6 hal
    have T7 := hT.out.grown hb7
    replace gZ := ggo gZ.out (grown_of_below hb7 (some g))
    have hne : Hid (w6.heap.size ≠ g) := by have := hz.out; have := hb6.size; show _ ≠ _; omega
    clear hfA hb6 hal sA fA hb7 q5 q6 hbnd hhon hT hFn2 hln
    dsimp only
    go_upto_region 19 with (fail)
    generalize w6.alloc (.cells #[.int .i64 loA, .int .i64 hiA] 24) = W7 at *
    generalize w6.heap.size = g16 at *
    have h7 := Lib.hid (hin.out g 70 (by omega) (by omega) W7 _ T7)
    obtain ⟨p1, p2⟩ := hms.out 70 (by omega) k
    clear T7
    go_wp2_with fail
    refine h7.out.mono ?_
    rintro e w8 ⟨rfl, T8, g8⟩
    have h9 := Lib.hid (hin.out g 90 (by omega) (by omega) w8 _ T8)
    obtain ⟨p3, p4⟩ := hms.out 90 (by omega) (stepK l k)
    generalize l.getD k 0 % 70 = p at *
    generalize stepK l k = kk1 at *
    generalize l.getD kk1 0 % 90 = q at *
    have y16 : Box w8 g16 24 [.int .i64 loA, .int .i64 hiA] := (g8.block g16 x16.lt (fun e => hne.out (Option.some.inj e))).trans x16
    replace gZ := ggo gZ g8
    clear h7 T8 g8 x16
    dsimp only
    go_wp2_with fail
    refine h9.out.mono ?_
    rintro e w9 ⟨rfl, T9, g9⟩
    have x16 : Box w9 g16 24 [.int .i64 loA, .int .i64 hiA] := (g9.block g16 y16.lt (fun e => hne.out (Option.some.inj e))).trans y16
    replace gZ := ggo gZ g9
    have hbz0 := below_tape hb1.out gZ (Nat.le_of_eq hg.out.symm) hb1.out.size
    have hal := balloc w9 (.cells #[.int .i64 (truth - 60 + p), .int .i64 (truth + 60), .int .i64 0, .int .i64 (truth - 10 + q)] 24)
    have hss : SeesS (w9.alloc (.cells #[.int .i64 (truth - 60 + p), .int .i64 (truth + 60), .int .i64 0, .int .i64 (truth - 10 + q)] 24)) (w9.heap.size + 1) (.slice (some ⟨w9.heap.size, 0, none⟩) 2 2) ((truth - 60 + p, truth + 60) :: (0, truth - 10 + q) :: []) := lit_n w9 24 [.int .i64 (truth - 60 + p), .int .i64 (truth + 60), .int .i64 0, .int .i64 (truth - 10 + q)] 2 2 rfl (by omega)
    have xL := Box.new w9 24 [.int .i64 (truth - 60 + p), .int .i64 (truth + 60), .int .i64 0, .int .i64 (truth - 10 + q)]
    change Box (w9.alloc (.cells #[.int .i64 (truth - 60 + p), .int .i64 (truth + 60), .int .i64 0, .int .i64 (truth - 10 + q)] 24)) _ _ _ at xL
    have hvv : ∀ j, j < 2 → vS (((truth - 60 + p, truth + 60) :: (0, truth - 10 + q) :: [] : List Sp).getD j (0, 0)).1 (((truth - 60 + p, truth + 60) :: (0, truth - 10 + q) :: [] : List Sp).getD j (0, 0)).2 = true := fun j hj => by
     obtain rfl | rfl : j = 0 ∨ j = 1 := by omega
     · show vS (truth - 60 + p) (truth + 60) = true
       rw [vS_iff]; omega
     · show vS 0 (truth - 10 + q) = true
       rw [vS_iff]; omega
    have hcer := Lib.hid (kcerts2_any v (w9.heap.size + 1) _ ((truth - 60 + p, truth + 60) :: (0, truth - 10 + q) :: []) (w9.alloc (.cells #[.int .i64 (truth - 60 + p), .int .i64 (truth + 60), .int .i64 0, .int .i64 (truth - 10 + q)] 24)) hss (by rw [World.size_alloc]; exact Nat.le_refl _) (by simp) (by simp) hvv)
    have hvS : vS loA hiA = true := by rw [vS_iff]; omega
    have hah := acc_hon (v := v) (ws := (truth - 60 + p, truth + 60) :: (0, truth - 10 + q) :: []) (lo := loA) (hi := hiA) (by simp) (by simp) hvv hvS
    have hav := accV_hon (v := v) (ws := (truth - 60 + p, truth + 60) :: (0, truth - 10 + q) :: []) (lo := loA) (hi := hiA) (by simp)
    have hik : insK ((truth - 60 + p, truth + 60) :: (0, truth - 10 + q) :: []) loA hiA 2 = true ↔ inS loA hiA (truth - 60 + p) (truth + 60) = true ∧ inS loA hiA 0 (truth - 10 + q) = true := by
     rw [insK_each]
     constructor
     · intro h; exact ⟨h 0 (by omega), h 1 (by omega)⟩
     · rintro ⟨h1, h2⟩ j hj
       obtain rfl | rfl : j = 0 ∨ j = 1 := by omega
       · exact h1
       · exact h2
    have x16' := x16.below hal
    have hbz := Lib.hid (bgo hbz0 hal)
    have hb0c := Lib.hid (Below.refl (w9.alloc (.cells #[.int .i64 (truth - 60 + p), .int .i64 (truth + 60), .int .i64 0, .int .i64 (truth - 10 + q)] 24)).heap.size (w9.alloc (.cells #[.int .i64 (truth - 60 + p), .int .i64 (truth + 60), .int .i64 0, .int .i64 (truth - 10 + q)] 24)))
    clear h9 T9 g9 y16 x16 gZ hbz0 hal hss hvv hb1 hkn2 i0
    dsimp only
    go_upto_region 20 with (fail)
    generalize w9.alloc (.cells #[.int .i64 (truth - 60 + p), .int .i64 (truth + 60), .int .i64 0, .int .i64 (truth - 10 + q)] 24) = WL at *
    generalize w9.heap.size = gL at *
    generalize hws : ((truth - 60 + p, truth + 60) :: (0, truth - 10 + q) :: [] : List Sp) = ws at *
    have hwl : ws.length = 2 := by rw [← hws]; rfl
    have hS1 : vS (truth - 60 + p) (truth + 60) = true := by rw [vS_iff]; omega
    have hS2 : vS 0 (truth - 10 + q) = true := by rw [vS_iff]; omega
    generalize hA0 : truth - 60 + p = a0 at *
    generalize hB0 : truth + 60 = b0 at *
    generalize hB1 : truth - 10 + q = b1 at *
    have K : Hid (∀ W : World, Below WL.heap.size WL W → (W.cell? ⟨g16, 0, none⟩ = some (.int .i64 loA) ∧ W.cell? ⟨g16, 1, none⟩ = some (.int .i64 hiA)) ∧ W.cell? ⟨gL, 0, none⟩ = some (.int .i64 a0) ∧ W.cell? ⟨gL, 1, none⟩ = some (.int .i64 b0) ∧ W.cell? ⟨gL, 2, none⟩ = some (.int .i64 0) ∧ W.cell? ⟨gL, 3, none⟩ = some (.int .i64 b1)) := fun W hW => ⟨boxT2 (x16'.below hW), (xL.below hW).cell 0, (xL.below hW).cell 1, (xL.below hW).cell 2, (xL.below hW).cell 3⟩
    replace hws := Lib.hid hws
    clear x16' xL hA0 hB0 hB1
    go_wp2_with fail
    refine hcer.out.mono ?_
    rintro e w10 ⟨v20, v21, G, rfl, oC, rC, -, hbC, hG1, hG2⟩
    have hcs2 := honL_len v ws 2
    have hel : ∀ c ∈ honL v ws 2, c.2.1.length ≤ 1048576 ∧ c.2.2.2.2.length ≤ 1048576 := fun c hc => by
     unfold honL at hc
     rw [List.mem_map] at hc
     obtain ⟨k, -, rfl⟩ := hc
     exact ⟨by show (keyG _ _).length ≤ _; rw [keyG_len]; omega, by show (sigG _ _ _ _).length ≤ _; rw [sigG_len]; omega⟩
    rw [hwl] at oC hah hav
    have hkl : (keyG (seedC v 2) 0).length = 32 := keyG_len _ _
    generalize honL v ws 2 = cs at *
    generalize keyG (seedC v 2) 0 = KK at *
    have sC : SeesR w10 w10.heap.size v20 5 cs.length (certS cs) := by rw [hcs2]; exact oC.own.sees
    obtain ⟨A20, c20, rfl, -, -⟩ := sC.mk_
    obtain ⟨A21, c21, rfl, -, -⟩ := SeesB.mk_ rC
    have rC' := SeesB.more rC hG2
    have hac := cacc_any w10.heap.size _ _ (keyG (seedC v 0) 0) cs loA hiA w10 rC' sC (Nat.le_refl _) hel (by omega)
    unfold AccP at hac
    rw [hav] at hac
    have hb10 := Lib.hid hbC
    obtain ⟨⟨k0, k1⟩, -, -, -, -⟩ := K.out w10 hbC
    have hnin := Lib.hid (fun f t W => inside_any loA hiA f t W)
    have hnho := Lib.hid (fun lo hi W => holds_any lo hi truth W)
    have hh0 : (vS loA hiA && (decide (loA ≤ truth) && decide (truth ≤ hiA))) = true := by rw [hvS]; simp; omega
    replace hcs2 := Lib.hid hcs2
    replace hkl := Lib.hid hkl
    replace hwl := Lib.hid hwl
    replace hh0 := Lib.hid hh0
    clear hcer oC rC rC' sC hel hav hbC hG1 hG2
    dsimp only
    cases e0 : inS loA hiA a0 b0 with
    | false =>
      have hni : ¬ insK ws loA hiA 2 = true := fun h => by have := (hik.1 h).1; rw [e0] at this; cases this
      rw [if_neg hni] at hah
      rw [hah] at hac
      replace hac := Lib.hid hac
      replace e0 := Lib.hid e0
      clear hik hah hni
      have hi0 := fun W => inside_any loA hiA a0 b0 W
      rw [e0.out] at hi0
      replace hi0 := Lib.hid hi0
      have hho := fun W => holds_any loA hiA truth W
      rw [hh0.out] at hho
      replace hho := Lib.hid hho
      go_wp2_with fail
      refine hac.out.mono ?_
      rintro e w11 ⟨v22, rfl, s22, hb11⟩
      rw [if_neg (by omega)] at s22
      obtain ⟨A22, c22, rfl, -, -⟩ := s22.mk_
      have hb12 := Lib.hid (bgo hb10.out hb11)
      clear hac s22 k0 k1 hb10 hb11
      dsimp only
      obtain ⟨⟨k0, k1⟩, k2, k3, k4, k5⟩ := K.out w11 hb12.out
      go_upto_region 22 with (fail)
      go_cut [24] (fun v24 W => v24 = .bool false ∧ Below WL.heap.size WL W)
      case first =>
       refine wp_region_J (fun W' : World => (W'.cell? ⟨g16, 0, none⟩ = some (.int .i64 loA) ∧ W'.cell? ⟨g16, 1, none⟩ = some (.int .i64 hiA)) ∧ W'.cell? ⟨gL, 0, none⟩ = some (.int .i64 a0) ∧ W'.cell? ⟨gL, 1, none⟩ = some (.int .i64 b0) ∧ W'.cell? ⟨gL, 2, none⟩ = some (.int .i64 0) ∧ W'.cell? ⟨gL, 3, none⟩ = some (.int .i64 b1)) 12 (by kernel_rfl) ?_ (fun hHeld => ?_)
       · (try dsimp only); (first | exact K.out _ hbC.out | exact K.out _ (bgo hb12.out (bdrew w11)))
       have hbC := Lib.hid (bgo hb12.out (bdrew w11))
       generalize w11.drew = X at *
       refine wpAnyJ_take (i := 0) (v := ?_) rfl (by kernel_rfl) (by kernel_rfl) (by kernel_rfl) (fun _ _ _ h => h) (by rfl) rfl (by kernel_rfl) (by kernel_rfl) (Or.inl ⟨by rfl, ?_⟩) (by assumption) ?_
       rotate_left 1
       · intro w hSw; (try dsimp only at hSw); go_simp <;> (try with_reducible rfl)
       try simp only [Act.put, List.getElem_toArray, List.getElem_cons_succ, List.getElem_cons_zero, List.setIfInBounds_toArray, List.set_cons_zero, List.set_cons_succ]
       refine wpAnyJ_take0 (i := 1) (v := ?_) rfl (by kernel_rfl) (by kernel_rfl) (by kernel_rfl) (fun _ _ _ h => h) (by rfl) (Or.inl ⟨by rfl, ?_⟩) (by assumption) ?_
       rotate_left 1
       · intro w hSw; (try dsimp only at hSw); go_simp <;> (try with_reducible rfl)
       try simp only [Act.put, List.getElem_toArray, List.getElem_cons_succ, List.getElem_cons_zero, List.setIfInBounds_toArray, List.set_cons_zero, List.set_cons_succ]
       refine wpAnyJ_take0 (i := 2) (v := ?_) rfl (by kernel_rfl) (by kernel_rfl) (by kernel_rfl) (fun _ _ _ h => h) (by rfl) (Or.inl ⟨by rfl, ?_⟩) (by assumption) ?_
       rotate_left 1
       · intro w hSw; (try dsimp only at hSw); go_simp <;> (try with_reducible rfl)
       try simp only [Act.put, List.getElem_toArray, List.getElem_cons_succ, List.getElem_cons_zero, List.setIfInBounds_toArray, List.set_cons_zero, List.set_cons_succ]
       refine wpAnyJ_take (i := 3) (v := ?_) rfl (by kernel_rfl) (by kernel_rfl) (by kernel_rfl) (fun _ _ _ h => h) (by rfl) rfl (by kernel_rfl) (by kernel_rfl) (Or.inl ⟨by rfl, ?_⟩) (by assumption) ?_
       rotate_left 1
       · intro w hSw; (try dsimp only at hSw); go_simp <;> (try with_reducible rfl)
       try simp only [Act.put, List.getElem_toArray, List.getElem_cons_succ, List.getElem_cons_zero, List.setIfInBounds_toArray, List.set_cons_zero, List.set_cons_succ]
       refine wpAnyJ_ready (rs := [4]) (by kernel_rfl) (by simp) ?_
       refine AllReadyJ.cons (o := _) rfl (fun Kq hKq => ?_) ?_
       · go_simp
         go_at_call 55
         refine (hi0.out X).mono ?_
         rintro e X2 ⟨rfl, hbI⟩
         have hbC2 := Lib.hid (bgo hbC.out hbI)
         clear hbC hbI
         obtain ⟨X, rfl⟩ : ∃ X : World, X = X2 := ⟨_, rfl⟩
         have hbC := hbC2
         clear hbC2
         go_wp2_with fail
         refine hKq.out _ _ ?_ (fun hHeld => ?_)
         · intro _; (try dsimp only); (first | exact K.out _ hbC.out | exact K.out _ (bgo hb12.out (bdrew w11)))
         clear hKq Kq
         try simp only [Act.put, List.getElem_toArray, List.getElem_cons_succ, List.getElem_cons_zero, List.setIfInBounds_toArray, List.set_cons_zero, List.set_cons_succ]
         refine wpAnyJ_take0 (i := 5) (v := ?_) rfl (by kernel_rfl) (by kernel_rfl) (by kernel_rfl) (fun _ _ _ h => h) (by rfl) (Or.inl ⟨by rfl, ?_⟩) (by assumption) ?_
         rotate_left 1
         · intro w hSw; (try dsimp only at hSw); go_simp <;> (try with_reducible rfl)
         try simp only [Act.put, List.getElem_toArray, List.getElem_cons_succ, List.getElem_cons_zero, List.setIfInBounds_toArray, List.set_cons_zero, List.set_cons_succ]
         refine wpAnyJ_ready (rs := [6, 7]) (by kernel_rfl) (by simp) ?_
         refine AllReadyJ.cons (o := _) rfl (fun Kq hKq => ?_) ?_
         · go_simp
           refine hKq.out _ _ ?_ (fun hHeld => ?_)
           · intro _; (try dsimp only); (first | exact K.out _ hbC.out | exact K.out _ (bgo hb12.out (bdrew w11)))
           clear hKq Kq
           try simp only [Act.put, List.getElem_toArray, List.getElem_cons_succ, List.getElem_cons_zero, List.setIfInBounds_toArray, List.set_cons_zero, List.set_cons_succ]
           refine wpAnyJ_ready (rs := [7]) (by kernel_rfl) (by simp) ?_
           refine AllReadyJ.cons (o := _) rfl (fun Kq hKq => ?_) ?_
           · go_simp
             refine hKq.out _ _ ?_ (fun hHeld => ?_)
             · intro _; (try dsimp only); (first | exact K.out _ hbC.out | exact K.out _ (bgo hb12.out (bdrew w11)))
             clear hKq Kq
             try simp only [Act.put, List.getElem_toArray, List.getElem_cons_succ, List.getElem_cons_zero, List.setIfInBounds_toArray, List.set_cons_zero, List.set_cons_succ]
             refine wpAnyJ_ready (rs := [8]) (by kernel_rfl) (by simp) ?_
             refine AllReadyJ.cons (o := _) rfl (fun Kq hKq => ?_) ?_
             · go_simp
               refine hKq.out _ _ ?_ (fun hHeld => ?_)
               · intro _; (try dsimp only); (first | exact K.out _ hbC.out | exact K.out _ (bgo hb12.out (bdrew w11)))
               clear hKq Kq
               try simp only [Act.put, List.getElem_toArray, List.getElem_cons_succ, List.getElem_cons_zero, List.setIfInBounds_toArray, List.set_cons_zero, List.set_cons_succ]
               refine wpAnyJ_ready (rs := [9]) (by kernel_rfl) (by simp) ?_
               refine AllReadyJ.cons (o := _) rfl (fun Kq hKq => ?_) ?_
               · go_simp
                 refine hKq.out _ _ ?_ (fun hHeld => ?_)
                 · intro _; (try dsimp only); (first | exact K.out _ hbC.out | exact K.out _ (bgo hb12.out (bdrew w11)))
                 clear hKq Kq
                 try simp only [Act.put, List.getElem_toArray, List.getElem_cons_succ, List.getElem_cons_zero, List.setIfInBounds_toArray, List.set_cons_zero, List.set_cons_succ]
                 refine wpAnyJ_ready (rs := [10]) (by kernel_rfl) (by simp) ?_
                 refine AllReadyJ.cons (o := _) rfl (fun Kq hKq => ?_) ?_
                 · go_simp
                   refine hKq.out _ _ ?_ (fun hHeld => ?_)
                   · intro _; (try dsimp only); (first | exact K.out _ hbC.out | exact K.out _ (bgo hb12.out (bdrew w11)))
                   clear hKq Kq
                   try simp only [Act.put, List.getElem_toArray, List.getElem_cons_succ, List.getElem_cons_zero, List.setIfInBounds_toArray, List.set_cons_zero, List.set_cons_succ]
                   refine wpAnyJ_take0 (i := 11) (v := ?_) rfl (by kernel_rfl) (by kernel_rfl) (by kernel_rfl) (fun _ _ _ h => h) (by rfl) (Or.inl ⟨by rfl, ?_⟩) (by assumption) ?_
                   rotate_left 1
                   · intro w hSw; (try dsimp only at hSw); go_simp <;> (try with_reducible rfl)
                   try simp only [Act.put, List.getElem_toArray, List.getElem_cons_succ, List.getElem_cons_zero, List.setIfInBounds_toArray, List.set_cons_zero, List.set_cons_succ]
                   refine wpAnyJ_ready (rs := [12]) (by kernel_rfl) (by simp) ?_
                   refine AllReadyJ.cons (o := _) rfl (fun Kq hKq => ?_) ?_
                   · go_simp
                     refine hKq.out _ _ ?_ (fun hHeld => ?_)
                     · intro hl; exact absurd hl (by decide)
                     clear hKq Kq
                     try simp only [Act.put, List.getElem_toArray, List.getElem_cons_succ, List.getElem_cons_zero, List.setIfInBounds_toArray, List.set_cons_zero, List.set_cons_succ]
                     refine wpAnyJ_done (by kernel_rfl) ?_ _
                     clear hHeld
                     go_wp2_with fail
                     go_meet
                     exact ⟨rfl, hbC.out⟩
                   exact AllReadyJ.nil
                 exact AllReadyJ.nil
               exact AllReadyJ.nil
             exact AllReadyJ.nil
           exact AllReadyJ.nil
         refine AllReadyJ.cons (o := _) rfl (fun Kq hKq => ?_) ?_
         · go_simp
           refine hKq.out _ _ ?_ (fun hHeld => ?_)
           · intro _; (try dsimp only); (first | exact K.out _ hbC.out | exact K.out _ (bgo hb12.out (bdrew w11)))
           clear hKq Kq
           try simp only [Act.put, List.getElem_toArray, List.getElem_cons_succ, List.getElem_cons_zero, List.setIfInBounds_toArray, List.set_cons_zero, List.set_cons_succ]
           refine wpAnyJ_ready (rs := [6, 8]) (by kernel_rfl) (by simp) ?_
           refine AllReadyJ.cons (o := _) rfl (fun Kq hKq => ?_) ?_
           · go_simp
             refine hKq.out _ _ ?_ (fun hHeld => ?_)
             · intro _; (try dsimp only); (first | exact K.out _ hbC.out | exact K.out _ (bgo hb12.out (bdrew w11)))
             clear hKq Kq
             try simp only [Act.put, List.getElem_toArray, List.getElem_cons_succ, List.getElem_cons_zero, List.setIfInBounds_toArray, List.set_cons_zero, List.set_cons_succ]
             refine wpAnyJ_ready (rs := [8]) (by kernel_rfl) (by simp) ?_
             refine AllReadyJ.cons (o := _) rfl (fun Kq hKq => ?_) ?_
             · go_simp
               refine hKq.out _ _ ?_ (fun hHeld => ?_)
               · intro _; (try dsimp only); (first | exact K.out _ hbC.out | exact K.out _ (bgo hb12.out (bdrew w11)))
               clear hKq Kq
               try simp only [Act.put, List.getElem_toArray, List.getElem_cons_succ, List.getElem_cons_zero, List.setIfInBounds_toArray, List.set_cons_zero, List.set_cons_succ]
               refine wpAnyJ_ready (rs := [9]) (by kernel_rfl) (by simp) ?_
               refine AllReadyJ.cons (o := _) rfl (fun Kq hKq => ?_) ?_
               · go_simp
                 refine hKq.out _ _ ?_ (fun hHeld => ?_)
                 · intro _; (try dsimp only); (first | exact K.out _ hbC.out | exact K.out _ (bgo hb12.out (bdrew w11)))
                 clear hKq Kq
                 try simp only [Act.put, List.getElem_toArray, List.getElem_cons_succ, List.getElem_cons_zero, List.setIfInBounds_toArray, List.set_cons_zero, List.set_cons_succ]
                 refine wpAnyJ_ready (rs := [10]) (by kernel_rfl) (by simp) ?_
                 refine AllReadyJ.cons (o := _) rfl (fun Kq hKq => ?_) ?_
                 · go_simp
                   refine hKq.out _ _ ?_ (fun hHeld => ?_)
                   · intro _; (try dsimp only); (first | exact K.out _ hbC.out | exact K.out _ (bgo hb12.out (bdrew w11)))
                   clear hKq Kq
                   try simp only [Act.put, List.getElem_toArray, List.getElem_cons_succ, List.getElem_cons_zero, List.setIfInBounds_toArray, List.set_cons_zero, List.set_cons_succ]
                   refine wpAnyJ_take0 (i := 11) (v := ?_) rfl (by kernel_rfl) (by kernel_rfl) (by kernel_rfl) (fun _ _ _ h => h) (by rfl) (Or.inl ⟨by rfl, ?_⟩) (by assumption) ?_
                   rotate_left 1
                   · intro w hSw; (try dsimp only at hSw); go_simp <;> (try with_reducible rfl)
                   try simp only [Act.put, List.getElem_toArray, List.getElem_cons_succ, List.getElem_cons_zero, List.setIfInBounds_toArray, List.set_cons_zero, List.set_cons_succ]
                   refine wpAnyJ_ready (rs := [12]) (by kernel_rfl) (by simp) ?_
                   refine AllReadyJ.cons (o := _) rfl (fun Kq hKq => ?_) ?_
                   · go_simp
                     refine hKq.out _ _ ?_ (fun hHeld => ?_)
                     · intro hl; exact absurd hl (by decide)
                     clear hKq Kq
                     try simp only [Act.put, List.getElem_toArray, List.getElem_cons_succ, List.getElem_cons_zero, List.setIfInBounds_toArray, List.set_cons_zero, List.set_cons_succ]
                     refine wpAnyJ_done (by kernel_rfl) ?_ _
                     clear hHeld
                     go_wp2_with fail
                     go_meet
                     exact ⟨rfl, hbC.out⟩
                   exact AllReadyJ.nil
                 exact AllReadyJ.nil
               exact AllReadyJ.nil
             exact AllReadyJ.nil
           refine AllReadyJ.cons (o := _) rfl (fun Kq hKq => ?_) ?_
           · go_simp
             refine hKq.out _ _ ?_ (fun hHeld => ?_)
             · intro _; (try dsimp only); (first | exact K.out _ hbC.out | exact K.out _ (bgo hb12.out (bdrew w11)))
             clear hKq Kq
             try simp only [Act.put, List.getElem_toArray, List.getElem_cons_succ, List.getElem_cons_zero, List.setIfInBounds_toArray, List.set_cons_zero, List.set_cons_succ]
             refine wpAnyJ_ready (rs := [6, 9]) (by kernel_rfl) (by simp) ?_
             refine AllReadyJ.cons (o := _) rfl (fun Kq hKq => ?_) ?_
             · go_simp
               refine hKq.out _ _ ?_ (fun hHeld => ?_)
               · intro _; (try dsimp only); (first | exact K.out _ hbC.out | exact K.out _ (bgo hb12.out (bdrew w11)))
               clear hKq Kq
               try simp only [Act.put, List.getElem_toArray, List.getElem_cons_succ, List.getElem_cons_zero, List.setIfInBounds_toArray, List.set_cons_zero, List.set_cons_succ]
               refine wpAnyJ_ready (rs := [9]) (by kernel_rfl) (by simp) ?_
               refine AllReadyJ.cons (o := _) rfl (fun Kq hKq => ?_) ?_
               · go_simp
                 refine hKq.out _ _ ?_ (fun hHeld => ?_)
                 · intro _; (try dsimp only); (first | exact K.out _ hbC.out | exact K.out _ (bgo hb12.out (bdrew w11)))
                 clear hKq Kq
                 try simp only [Act.put, List.getElem_toArray, List.getElem_cons_succ, List.getElem_cons_zero, List.setIfInBounds_toArray, List.set_cons_zero, List.set_cons_succ]
                 refine wpAnyJ_ready (rs := [10]) (by kernel_rfl) (by simp) ?_
                 refine AllReadyJ.cons (o := _) rfl (fun Kq hKq => ?_) ?_
                 · go_simp
                   refine hKq.out _ _ ?_ (fun hHeld => ?_)
                   · intro _; (try dsimp only); (first | exact K.out _ hbC.out | exact K.out _ (bgo hb12.out (bdrew w11)))
                   clear hKq Kq
                   try simp only [Act.put, List.getElem_toArray, List.getElem_cons_succ, List.getElem_cons_zero, List.setIfInBounds_toArray, List.set_cons_zero, List.set_cons_succ]
                   refine wpAnyJ_take0 (i := 11) (v := ?_) rfl (by kernel_rfl) (by kernel_rfl) (by kernel_rfl) (fun _ _ _ h => h) (by rfl) (Or.inl ⟨by rfl, ?_⟩) (by assumption) ?_
                   rotate_left 1
                   · intro w hSw; (try dsimp only at hSw); go_simp <;> (try with_reducible rfl)
                   try simp only [Act.put, List.getElem_toArray, List.getElem_cons_succ, List.getElem_cons_zero, List.setIfInBounds_toArray, List.set_cons_zero, List.set_cons_succ]
                   refine wpAnyJ_ready (rs := [12]) (by kernel_rfl) (by simp) ?_
                   refine AllReadyJ.cons (o := _) rfl (fun Kq hKq => ?_) ?_
                   · go_simp
                     refine hKq.out _ _ ?_ (fun hHeld => ?_)
                     · intro hl; exact absurd hl (by decide)
                     clear hKq Kq
                     try simp only [Act.put, List.getElem_toArray, List.getElem_cons_succ, List.getElem_cons_zero, List.setIfInBounds_toArray, List.set_cons_zero, List.set_cons_succ]
                     refine wpAnyJ_done (by kernel_rfl) ?_ _
                     clear hHeld
                     go_wp2_with fail
                     go_meet
                     exact ⟨rfl, hbC.out⟩
                   exact AllReadyJ.nil
                 exact AllReadyJ.nil
               exact AllReadyJ.nil
             refine AllReadyJ.cons (o := _) rfl (fun Kq hKq => ?_) ?_
             · go_simp
               refine hKq.out _ _ ?_ (fun hHeld => ?_)
               · intro _; (try dsimp only); (first | exact K.out _ hbC.out | exact K.out _ (bgo hb12.out (bdrew w11)))
               clear hKq Kq
               try simp only [Act.put, List.getElem_toArray, List.getElem_cons_succ, List.getElem_cons_zero, List.setIfInBounds_toArray, List.set_cons_zero, List.set_cons_succ]
               refine wpAnyJ_ready (rs := [6]) (by kernel_rfl) (by simp) ?_
               refine AllReadyJ.cons (o := _) rfl (fun Kq hKq => ?_) ?_
               · go_simp
                 refine hKq.out _ _ ?_ (fun hHeld => ?_)
                 · intro _; (try dsimp only); (first | exact K.out _ hbC.out | exact K.out _ (bgo hb12.out (bdrew w11)))
                 clear hKq Kq
                 try simp only [Act.put, List.getElem_toArray, List.getElem_cons_succ, List.getElem_cons_zero, List.setIfInBounds_toArray, List.set_cons_zero, List.set_cons_succ]
                 refine wpAnyJ_ready (rs := [10]) (by kernel_rfl) (by simp) ?_
                 refine AllReadyJ.cons (o := _) rfl (fun Kq hKq => ?_) ?_
                 · go_simp
                   refine hKq.out _ _ ?_ (fun hHeld => ?_)
                   · intro _; (try dsimp only); (first | exact K.out _ hbC.out | exact K.out _ (bgo hb12.out (bdrew w11)))
                   clear hKq Kq
                   try simp only [Act.put, List.getElem_toArray, List.getElem_cons_succ, List.getElem_cons_zero, List.setIfInBounds_toArray, List.set_cons_zero, List.set_cons_succ]
                   refine wpAnyJ_take0 (i := 11) (v := ?_) rfl (by kernel_rfl) (by kernel_rfl) (by kernel_rfl) (fun _ _ _ h => h) (by rfl) (Or.inl ⟨by rfl, ?_⟩) (by assumption) ?_
                   rotate_left 1
                   · intro w hSw; (try dsimp only at hSw); go_simp <;> (try with_reducible rfl)
                   try simp only [Act.put, List.getElem_toArray, List.getElem_cons_succ, List.getElem_cons_zero, List.setIfInBounds_toArray, List.set_cons_zero, List.set_cons_succ]
                   refine wpAnyJ_ready (rs := [12]) (by kernel_rfl) (by simp) ?_
                   refine AllReadyJ.cons (o := _) rfl (fun Kq hKq => ?_) ?_
                   · go_simp
                     refine hKq.out _ _ ?_ (fun hHeld => ?_)
                     · intro hl; exact absurd hl (by decide)
                     clear hKq Kq
                     try simp only [Act.put, List.getElem_toArray, List.getElem_cons_succ, List.getElem_cons_zero, List.setIfInBounds_toArray, List.set_cons_zero, List.set_cons_succ]
                     refine wpAnyJ_done (by kernel_rfl) ?_ _
                     clear hHeld
                     go_wp2_with fail
                     go_meet
                     exact ⟨rfl, hbC.out⟩
                   exact AllReadyJ.nil
                 exact AllReadyJ.nil
               exact AllReadyJ.nil
             exact AllReadyJ.nil
           exact AllReadyJ.nil
         exact AllReadyJ.nil
       exact AllReadyJ.nil
      case rest =>
      obtain ⟨rfl, hb13⟩ := hcut
      obtain ⟨w12, rfl⟩ : ∃ W : World, W = wc := ⟨_, rfl⟩
      replace hb13 := Lib.hid hb13
      clear k0 k1 k2 k3 k4 k5 hb12 hi0
      obtain ⟨⟨k0, k1⟩, k2, k3, k4, k5⟩ := K.out _ hb13.out
      go_wp2_with fail
      refine (hho.out _).mono ?_
      rintro e w14 ⟨rfl, hbH⟩
      have hb14 := Lib.hid (bgo hb13.out hbH)
      clear k0 k1 k2 k3 k4 k5 hb13 hbH hho
      dsimp only
      go_wp2_with fail
      refine (hkn.out _).mono ?_
      rintro e w15 ⟨rfl, hbA⟩
      have hb15 := Lib.hid (bgo hb14.out hbA)
      clear hb14 hbA
      dsimp only
      go_wp2_with fail
      first | go_returns | go_ret
      exact ⟨by simp, bgo hbz.out hb15.out⟩
    | true =>
      cases e1 : inS loA hiA 0 b1 with
      | false =>
        have hni : ¬ insK ws loA hiA 2 = true := fun h => by have := (hik.1 h).2; rw [e1] at this; cases this
        rw [if_neg hni] at hah
        rw [hah] at hac
        replace hac := Lib.hid hac
        replace e0 := Lib.hid e0
        replace e1 := Lib.hid e1
        clear hik hah hni
        have hi0 := fun W => inside_any loA hiA a0 b0 W
        rw [e0.out] at hi0
        replace hi0 := Lib.hid hi0
        have hi1 := fun W => inside_any loA hiA 0 b1 W
        rw [e1.out] at hi1
        replace hi1 := Lib.hid hi1
        have hho := fun W => holds_any loA hiA truth W
        rw [hh0.out] at hho
        replace hho := Lib.hid hho
        go_wp2_with fail
        refine hac.out.mono ?_
        rintro e w11 ⟨v22, rfl, s22, hb11⟩
        rw [if_neg (by omega)] at s22
        obtain ⟨A22, c22, rfl, -, -⟩ := s22.mk_
        have hb12 := Lib.hid (bgo hb10.out hb11)
        clear hac s22 k0 k1 hb10 hb11
        dsimp only
        obtain ⟨⟨k0, k1⟩, k2, k3, k4, k5⟩ := K.out w11 hb12.out
        go_upto_region 22 with (fail)
        go_cut [24] (fun v24 W => v24 = .bool false ∧ Below WL.heap.size WL W)
        case first =>
         go_region_held3 (fun W' : World => (W'.cell? ⟨g16, 0, none⟩ = some (.int .i64 loA) ∧ W'.cell? ⟨g16, 1, none⟩ = some (.int .i64 hiA)) ∧ W'.cell? ⟨gL, 0, none⟩ = some (.int .i64 a0) ∧ W'.cell? ⟨gL, 1, none⟩ = some (.int .i64 b0) ∧ W'.cell? ⟨gL, 2, none⟩ = some (.int .i64 0) ∧ W'.cell? ⟨gL, 3, none⟩ = some (.int .i64 b1))
          (first | exact K.out _ (bgo hb12.out (by (repeat (first | exact Below.refl _ _ | (refine bgo ?_ (balloc _ _)) | (refine bgo ?_ (bdrew _)) | (refine bgo ?_ (by assumption)))))) | (go_keep; done))
          ((go_at_call 55; refine (hnin.out _ _ _).mono ?_; first | (rintro e w12 ⟨rfl, hbI⟩; simp only [e0.out]) | (rintro e w13 ⟨rfl, hbJ⟩; simp only [e1.out])))
         all_goals
          go_wp2_with fail
          go_meet
          exact ⟨by first | rfl | rw [e1.out], bgo hb12.out (by (repeat (first | exact Below.refl _ _ | (refine bgo ?_ (balloc _ _)) | (refine bgo ?_ (bdrew _)) | (refine bgo ?_ (by assumption)))))⟩
        case rest =>
        obtain ⟨rfl, hb13⟩ := hcut
        obtain ⟨w12, rfl⟩ : ∃ W : World, W = wc := ⟨_, rfl⟩
        replace hb13 := Lib.hid hb13
        clear k0 k1 k2 k3 k4 k5 hb12 hi0 hi1
        obtain ⟨⟨k0, k1⟩, k2, k3, k4, k5⟩ := K.out _ hb13.out
        go_wp2_with fail
        refine (hho.out _).mono ?_
        rintro e w14 ⟨rfl, hbH⟩
        have hb14 := Lib.hid (bgo hb13.out hbH)
        clear k0 k1 k2 k3 k4 k5 hb13 hbH hho
        dsimp only
        go_wp2_with fail
        refine (hkn.out _).mono ?_
        rintro e w15 ⟨rfl, hbA⟩
        have hb15 := Lib.hid (bgo hb14.out hbA)
        clear hb14 hbA
        dsimp only
        go_wp2_with fail
        first | go_returns | go_ret
        exact ⟨by simp, bgo hbz.out hb15.out⟩
      | true =>
        have hni : insK ws loA hiA 2 = true := hik.2 ⟨e0, e1⟩
        have t1 := inS_iff.1 e0
        have t2 := inS_iff.1 e1
        have h1 : (vS a0 b0 && (decide (a0 ≤ truth) && decide (truth ≤ b0))) = true := by rw [t1.2.1]; simp; omega
        have h2 : (vS 0 b1 && (decide ((0 : Int) ≤ truth) && decide (truth ≤ b1))) = true := by rw [t2.2.1]; simp; omega
        rw [if_pos hni] at hah
        rw [hah] at hac
        replace hac := Lib.hid hac
        replace e0 := Lib.hid e0
        replace e1 := Lib.hid e1
        replace h1 := Lib.hid h1
        replace h2 := Lib.hid h2
        clear hik hah hni t1 t2
        have hi0 := fun W => inside_any loA hiA a0 b0 W
        rw [e0.out] at hi0
        replace hi0 := Lib.hid hi0
        have hi1 := fun W => inside_any loA hiA 0 b1 W
        rw [e1.out] at hi1
        replace hi1 := Lib.hid hi1
        have hho := fun W => holds_any loA hiA truth W
        rw [hh0.out] at hho
        replace hho := Lib.hid hho
        go_wp2_with fail
        refine hac.out.mono ?_
        rintro e w11 ⟨v22, rfl, s22, hb11⟩
        first | rw [if_pos rfl] at s22 | rw [if_pos trivial] at s22
        obtain ⟨A22, c22, rfl, -, -⟩ := s22.mk_
        have hb12 := Lib.hid (bgo hb10.out hb11)
        clear hac s22 k0 k1 hb10 hb11
        dsimp only
        obtain ⟨⟨k0, k1⟩, k2, k3, k4, k5⟩ := K.out w11 hb12.out
        go_upto_region 22 with (fail)
        go_cut [24] (fun v24 W => v24 = .bool true ∧ Below WL.heap.size WL W)
        case first =>
         go_region_held3 (fun W' : World => (W'.cell? ⟨g16, 0, none⟩ = some (.int .i64 loA) ∧ W'.cell? ⟨g16, 1, none⟩ = some (.int .i64 hiA)) ∧ W'.cell? ⟨gL, 0, none⟩ = some (.int .i64 a0) ∧ W'.cell? ⟨gL, 1, none⟩ = some (.int .i64 b0) ∧ W'.cell? ⟨gL, 2, none⟩ = some (.int .i64 0) ∧ W'.cell? ⟨gL, 3, none⟩ = some (.int .i64 b1))
          (first | exact K.out _ (bgo hb12.out (by (repeat (first | exact Below.refl _ _ | (refine bgo ?_ (balloc _ _)) | (refine bgo ?_ (bdrew _)) | (refine bgo ?_ (by assumption)))))) | (go_keep; done))
          ((go_at_call 55; refine (hnin.out _ _ _).mono ?_; first | (rintro e w12 ⟨rfl, hbI⟩; simp only [e0.out]) | (rintro e w13 ⟨rfl, hbJ⟩; simp only [e1.out])))
         all_goals
          go_wp2_with fail
          go_meet
          exact ⟨by first | rfl | rw [e1.out], bgo hb12.out (by (repeat (first | exact Below.refl _ _ | (refine bgo ?_ (balloc _ _)) | (refine bgo ?_ (bdrew _)) | (refine bgo ?_ (by assumption)))))⟩
        case rest =>
        obtain ⟨rfl, hb13⟩ := hcut
        obtain ⟨w12, rfl⟩ : ∃ W : World, W = wc := ⟨_, rfl⟩
        replace hb13 := Lib.hid hb13
        clear k0 k1 k2 k3 k4 k5 hb12 hi0 hi1
        obtain ⟨⟨k0, k1⟩, k2, k3, k4, k5⟩ := K.out _ hb13.out
        go_wp2_with fail
        refine (hho.out _).mono ?_
        rintro e w14 ⟨rfl, hbH⟩
        have hb14 := Lib.hid (bgo hb13.out hbH)
        clear k0 k1 k2 k3 k4 k5 hb13 hbH hho
        dsimp only
        go_wp2_with fail
        refine (hkn.out _).mono ?_
        rintro e w15 ⟨rfl, hbA⟩
        have hb15 := Lib.hid (bgo hb14.out hbA)
        clear hb14 hbA
        dsimp only
        have hkl' := hkl.out
        obtain ⟨⟨k0, k1⟩, k2, k3, k4, k5⟩ := K.out w15 hb15.out
        have hw0 := fun W => holds_any a0 b0 truth W
        rw [h1.out] at hw0
        have hw1 := fun W => holds_any 0 b1 truth W
        rw [h2.out] at hw1
        replace hw0 := Lib.hid hw0
        replace hw1 := Lib.hid hw1
        go_wp2_with fail
        refine (hw0.out _).mono ?_
        rintro e w16 ⟨rfl, hbB⟩
        have hb16 := Lib.hid (bgo hb15.out hbB)
        clear k0 k1 k2 k3 k4 k5 hb15 hbB hw0
        obtain ⟨⟨k0, k1⟩, k2, k3, k4, k5⟩ := K.out w16 hb16.out
        dsimp only
        go_wp2_with fail
        refine (hw1.out _).mono ?_
        rintro e w17 ⟨rfl, hbB⟩
        have hb15 := Lib.hid (bgo hb16.out hbB)
        clear hb16 hbB hw1
        dsimp only
        go_wp2_with fail
        first | go_returns | go_ret
        exact ⟨by simp, bgo hbz.out hb15.out⟩
end Go.Proofs.YtjgepckncogdaaaGreat

/- What a law leans on beyond the base: contracts, plain functions, walks. Conditions: those of each theorem. -/
import Derived.Test.YtgehkgjllhkhoaaGreatJBLawP
set_option linter.unusedVariables false
set_option linter.unusedSimpArgs false
namespace Go.Proofs.YtgehkgjllhkhoaaGreat
open Go Go.RowKit
set_option linter.unusedVariables false
set_option linter.unusedSimpArgs false
attribute [local go_sem ↓] Go.wp_at_zero Go.wp_at_succ
def HB (u : Value) (l : List Int) (g base : Nat) (w0 : World) (s o : Value) (i g10 : Nat) (lo hi : Int) (k : Nat) (W : World) : Prop :=
 Box W g10 23 [.int .i64 lo, .int .i64 hi] ∧ SpI u l g base w0 s i (hF l i) o i (hWF l i) k W
theorem enc_small {ls : List Lk} (h8 : ls.length ≤ 8) (hl : ∀ t ∈ ls, t.1.length = 32 ∧ t.2.1.length = 32 ∧ t.2.2.length ≤ 2048) : (wrF (encF ls 0 0)).length ≤ 65535 := by
 have h : ∀ ls : List Lk, (∀ t ∈ ls, t.1.length = 32 ∧ t.2.1.length = 32 ∧ t.2.2.length ≤ 2048) → (wrF (ls.flatMap lkF)).length ≤ 2124 * ls.length := by
  intro ls
  induction ls with
  | nil => intro _; exact Nat.le_refl _
  | cons t ls ih =>
    intro hl
    have h1 := ih fun x hx => hl x (List.mem_cons_of_mem _ hx)
    obtain ⟨a1, a2, a3⟩ := hl t (List.mem_cons_self ..)
    rw [List.flatMap_cons, wrF_append, List.length_append, List.length_cons]
    have : (wrF (lkF t)).length = 12 + t.1.length + t.2.1.length + t.2.2.length := by
     simp only [lkF, wrF_cons, wrF_nil, List.length_append, fdB_len, List.length_nil]
     omega
    omega
 have h1 := h ls hl
 rw [encF, wrF_append, List.length_append, wrF_one, fdB_len]
 show _ + (4 + 2) ≤ _
 omega
theorem dec_same {b : Bs} {ls : List Lk} {f s : Int} (h : DecOut b ls f s 0) {w w' : World} {e : Ending} (hp : FDecP b w e w') : ∃ v, e = .returned (.tuple #[.agg #[v, .int .i64 f, .int .i64 s], .int .i64 0]) ∧ SeesR w' w'.heap.size v 3 ls.length (linkS ls) ∧ Below w.heap.size w w' := by
 obtain ⟨ls', f', s', c', v, h1, h2, h3, h4⟩ := decOut_of hp
 obtain ⟨rfl, rfl, rfl, rfl⟩ := h.uniq h1
 exact ⟨v, h2, h3, h4⟩
set_option maxRecDepth 100000 in
set_option maxHeartbeats 8000000 in
theorem b9_law (v : Int) (wf0 : (Lit.int .i64 v).wf = true) (B : Nat) (u : Value) (l : List Int) (w : World) (h : SeesT w B u l) (hB : B ≤ w.heap.size) :
 Calls Tryz.prog 4 #[.int .i64 v, u] w fun e w' => e = .returned (.bool true) ∧ Below w.heap.size w w' := by
 clear wf0
 replace h := h.more hB
 obtain ⟨A, c, rfl, -, -⟩ := h.mk_
 have hne := Lib.hid (tnew_any _ l w h)
 obtain ⟨ti, hti, htz, hts, htb⟩ := info_parts span_info
 obtain ⟨ti2, hti2, htz2, hts2, htb2⟩ := info_parts int_info
 replace hti := Lib.hid hti
 replace htz := Lib.hid htz
 replace hts := Lib.hid hts
 replace htb := Lib.hid htb
 replace hti2 := Lib.hid hti2
 replace htz2 := Lib.hid htz2
 replace hts2 := Lib.hid hts2
 replace htb2 := Lib.hid htb2
 have hr1 := md (l.getD 0 0) 3 (by omega)
 have hNd : hN l = (2 + l.getD 0 0 % 3).toNat := rfl
 obtain ⟨N, hN⟩ : ∃ N, hN l = N := ⟨_, rfl⟩
 have hN3 : (2 : Int) + l.getD 0 0 % 3 = (N : Int) := by rw [← hN, hNd]; omega
 clear hNd
 have hN4 : N ≤ 4 := by omega
 have hN2 : 2 ≤ N := by omega
 have hp0 : Hid (stepK l 0 = (hSt l 0).2) := rfl
 replace hN := Lib.hid hN
 clear h hB
 go_enter Tryz.func4, Tryz.ntmps4
 go_wp2_with fail
 refine hne.out.mono ?_
 rintro e W0 ⟨rfl, ht0, hb0, hgl⟩
 have hin := tint_any _ _ l 0 3 W0 ht0 (by omega) (by omega)
 generalize l.getD 0 0 % 3 = r at *
 generalize hgg : w.heap.size = g at *
 replace hgg := Lib.hid hgg
 replace hin := Lib.hid hin
 clear hne ht0
 dsimp only
 go_wp2_with fail
 refine hin.out.mono ?_
 rintro e w1 ⟨rfl, h1, hg1⟩
 have hbl : g ≤ W0.heap.size := Nat.le_of_lt hgl
 have hb1 : Below g w w1 := hb0.trans ⟨hg1.os, hg1.tape, hg1.output, hg1.size, fun k hk => hg1.block k (by omega) (fun e => by have := Option.some.inj e; omega)⟩
 have hgb : Hid (g < w1.heap.size) := Nat.lt_of_lt_of_le hgl hg1.size
 rw [hp0.out] at h1
 have I1 : SpI (.slice A l.length c) l g w1.heap.size w (.slice none 0 0) 0 (hF l 0) (.slice none 0 0) 0 (hWF l 0) (hSt l 0).2 w1 := ⟨World.ownsRow_nil _ _ _ _, World.ownsRow_nil _ _ _ _, (fun j hj => by cases hj), h1, hb1, Nat.le_refl _⟩
 clear hin hg1 hb0 hgl hbl h1 hb1
 dsimp only
 go_wp2_with fail
 go_loopw [6, 7, 8, 9] (fun s o a t wr => ∃ i : Nat, i ≤ N ∧ a = .int .i64 (hSt l i).1 ∧ t = .int .i64 ((N - i : Nat) : Int) ∧ SpI (.slice A l.length c) l g w1.heap.size w s i (hF l i) o i (hWF l i) (hSt l i).2 wr) (fun _ _ _ t _ => (intOf t).toNat)
 case atStart => exact ⟨0, by omega, rfl, by go_num, I1⟩
 case round =>
  clear I1
  obtain ⟨i, hi, rfl, rfl, I1⟩ := hrel
  obtain ⟨As, cs, rfl, -, -⟩ := (Sees.of_own I1.row).mk_
  obtain ⟨Ao, co, rfl, -, -⟩ := (Sees.of_own I1.who).mk_
  by_cases hlt : i < N
  · have i0 : (0 : Int) < ((N - i : Nat) : Int) := by omega
    have hat := hSt_le l i
    have hsm := hSp_small l i (by omega)
    have hat2 := hSt_le l (i + 1)
    obtain ⟨e1, e2⟩ := And.intro (hF_next l i) (hWF_next l i)
    have hr : (hSt l (i + 1) = (hR l (hSt l i).1 (hSt l i).2).1) := rfl
    unfold hSp at e1 hsm
    unfold hWh at e2
    rw [hr] at hat2
    generalize (hSt l i).1 = a at *
    generalize (hSt l i).2 = p at *
    have hT := fun p m (h1 : 1 ≤ m) (h2 : m ≤ 1048576) W (h : TapeAt W g (.slice A l.length c) l p) => tint_any g _ l p m W h h1 h2
    replace hT := Lib.hid hT
    unfold hR at e1 e2 hr hsm hat2
    have x1 := md (l.getD p 0) 10 (by omega)
    have x2 := md (l.getD (stepK l p) 0) 8 (by omega)
    have x3 := md (l.getD (stepK l (stepK l p)) 0) 8 (by omega)
    have x4 := md (l.getD (stepK l (stepK l (stepK l p))) 0) 2 (by omega)
    have c1 := Lib.hid (hT.out p 10 (by omega) (by omega) wr I1.tape_)
    have c2 := Lib.hid (hT.out (stepK l p) 8 (by omega) (by omega))
    have c3 := Lib.hid (hT.out (stepK l (stepK l p)) 8 (by omega) (by omega))
    have c4 := Lib.hid (hT.out (stepK l (stepK l (stepK l p))) 2 (by omega) (by omega))
    have c5 := Lib.hid (hT.out (stepK l (stepK l (stepK l (stepK l p)))) 40 (by omega) (by omega))
    have c6 := Lib.hid (hT.out (stepK l (stepK l (stepK l (stepK l (stepK l p))))) 3 (by omega) (by omega))
    have x5 := md (l.getD (stepK l (stepK l (stepK l (stepK l p)))) 0) 40 (by omega)
    have x6 := md (l.getD (stepK l (stepK l (stepK l (stepK l (stepK l p))))) 0) 3 (by omega)
    generalize l.getD p 0 % 10 = d1 at *
    generalize l.getD (stepK l p) 0 % 8 = d2 at *
    generalize l.getD (stepK l (stepK l p)) 0 % 8 = d3 at *
    generalize l.getD (stepK l (stepK l (stepK l p))) 0 % 2 = y at *
    generalize l.getD (stepK l (stepK l (stepK l (stepK l p)))) 0 % 40 = d5 at *
    generalize l.getD (stepK l (stepK l (stepK l (stepK l (stepK l p))))) 0 % 3 = d6 at *
    obtain ⟨x10, x11⟩ := x1
    obtain ⟨x20, x21⟩ := x2
    obtain ⟨x30, x31⟩ := x3
    obtain ⟨x40, x41⟩ := x4
    obtain ⟨x50, x51⟩ := x5
    obtain ⟨x60, x61⟩ := x6
    obtain ⟨a0, a1⟩ := hat
    obtain ⟨R, hRd⟩ : ∃ R, (if y = 1 then ((a + d1, stepK l (stepK l (stepK l (stepK l (stepK l (stepK l p)))))), (d5, d5 + d6), (1 : Int)) else ((a + d1, stepK l (stepK l (stepK l (stepK l p)))), (a + d1 - d2, a + d1 + d3), 0)) = R := ⟨_, rfl⟩
    rw [hRd] at e1 e2 hr
    have hRy : R.2.2 = y := by
     rw [← hRd]
     split
     · rename_i h; exact h.symm
     · show (0 : Int) = y; omega
    have hRa : R.1.1 = a + d1 := by
     rw [← hRd]
     split <;> rfl
    rw [hRy] at e2
    have hR1 : y = 1 → R = ((a + d1, stepK l (stepK l (stepK l (stepK l (stepK l (stepK l p)))))), (d5, d5 + d6), (1 : Int)) := fun h => by rw [← hRd, if_pos h]
    have hR0 : y = 0 → R = ((a + d1, stepK l (stepK l (stepK l (stepK l p)))), (a + d1 - d2, a + d1 + d3), 0) := fun h => by rw [← hRd, if_neg (by omega)]
    replace hR1 := Lib.hid hR1
    replace hR0 := Lib.hid hR0
    replace hRa := Lib.hid hRa
    replace e1 := Lib.hid e1
    replace e2 := Lib.hid e2
    replace hr := Lib.hid hr
    clear hsm hat2 hT hRd hRy
    go_wp2_with fail
    refine c1.out.mono ?_
    rintro e w2 ⟨rfl, t2, g2⟩
    have I2 := I1.tape hgb.out t2 g2
    have h2 := Lib.hid (c2.out w2 t2)
    clear I1 c1 c2 t2 g2
    dsimp only
    go_wp2_with fail
    refine h2.out.mono ?_
    rintro e w3 ⟨rfl, t3, g3⟩
    have I3 := I2.tape hgb.out t3 g3
    have h3 := Lib.hid (c3.out w3 t3)
    clear I2 h2 c3 t3 g3
    dsimp only
    go_wp2_with fail
    refine h3.out.mono ?_
    rintro e w4 ⟨rfl, t4, g4⟩
    have I4 := I3.tape hgb.out t4 g4
    clear I3 h3 t4 g4
    dsimp only
    go_upto_region 10 with (fail)
    have hal := balloc w4 (.cells #[.int .i64 (a + d1 - d2), .int .i64 (a + d1 + d3)] 23)
    have x5 := Box.new w4 23 [.int .i64 (a + d1 - d2), .int .i64 (a + d1 + d3)]
    change Box (w4.alloc (.cells #[.int .i64 (a + d1 - d2), .int .i64 (a + d1 + d3)] 23)) _ _ _ at x5
    have hb10 : Hid (w1.heap.size ≤ w4.heap.size) := I4.size
    have hs10 : Hid (∀ j, (Value.slice As i cs).ownBlock = some j → j < w4.heap.size) := fun j hj => (I4.row.lt j hj).2
    have ho10 : Hid (∀ j, (Value.slice Ao i co).ownBlock = some j → j < w4.heap.size) := fun j hj => (I4.who.lt j hj).2
    have I5 := I4.below hal hgb.out
    have h4 := Lib.hid (c4.out _ I5.tape_)
    clear I4 hal c4
    generalize w4.alloc (.cells #[.int .i64 (a + d1 - d2), .int .i64 (a + d1 + d3)] 23) = w5 at *
    generalize w4.heap.size = g10 at *
    have hne10 : Hid (g ≠ g10) := by have := hgb.out; have := hb10.out; show _ ≠ _; omega
    go_wp2_with fail
    refine h4.out.mono ?_
    rintro e w6 ⟨rfl, t6, g6⟩
    have I6 := I5.tape hgb.out t6 g6
    have x6 : Box w6 g10 23 [.int .i64 (a + d1 - d2), .int .i64 (a + d1 + d3)] := (g6.block g10 x5.lt (fun e => hne10.out (Option.some.inj e).symm)).trans x5
    have h5 := Lib.hid (c5.out _ I6.tape_)
    clear I5 h4 t6 g6 x5 c5
    dsimp only
    go_upto_if 55 with (fail)
    go_cut [57] (fun v57 W => HB (.slice A l.length c) l g w1.heap.size w (.slice As i cs) (.slice Ao i co) i g10 R.2.1.1 R.2.1.2 R.1.2 W)
    case first =>
     obtain rfl | rfl : y = 0 ∨ y = 1 := by omega
     · have hd : Hid (HB (.slice A l.length c) l g w1.heap.size w (.slice As i cs) (.slice Ao i co) i g10 R.2.1.1 R.2.1.2 R.1.2 w6) := by show HB _ _ _ _ _ _ _ _ _ _ _ _ _; rw [hR0.out rfl]; exact ⟨x6, I6⟩
       clear h5
       go_wp2_with fail
       go_meet
       exact hd.out
     · have hRR := Lib.hid (hR1.out rfl)
       clear hR1 hR0
       go_wp2_with fail
       refine h5.out.mono ?_
       rintro e w7 ⟨rfl, t7, g7⟩
       have J1 := I6.tape hgb.out t7 g7
       have x7 : Box w7 g10 23 [.int .i64 (a + d1 - d2), .int .i64 (a + d1 + d3)] := (g7.block g10 x6.lt (fun e => hne10.out (Option.some.inj e).symm)).trans x6
       have J2 := J1.poke hgb.out (G := g10) (j := 0) (v := .int .i64 d5) hb10.out hs10.out ho10.out
       have x7s : Box (w7.setCell ⟨g10, 0, none⟩ (.int .i64 d5)) g10 23 [.int .i64 d5, .int .i64 (a + d1 + d3)] := by have := x7.set 0 (.int .i64 d5); simpa only [List.set_cons_zero] using this
       obtain ⟨z0, z1, fz0, fz1⟩ := box2_cells x7
       clear h5 I6 J1 t7 g7 x6 x7
       dsimp only
       go_upto_region 13 with (fail)
       clear z0 z1 fz0 fz1
       generalize w7.setCell ⟨g10, 0, none⟩ (.int .i64 d5) = w7' at *
       have J2d := J2.below (bdrew w7') hgb.out
       have hin2 := Lib.hid (c6.out w7'.drew J2d.tape_)
       have x7d := Lib.hid (x7s.below (bdrew w7'))
       have hg8l : Hid (g10 < w7'.drew.heap.size) := x7d.out.lt
       have k3 := x7d.out.cell 0
       simp only [List.getElem?_cons_zero] at k3
       have I7 := Lib.hid J2d
       have hwr : IntKind.i64.wrap (d5 + d6) = d5 + d6 := IntWalk.i64_in _ (by omega)
       clear J2 J2d x7s c6
       refine wp_region_J (fun W' : World => W'.cell? ⟨g10, 0, none⟩ = some (.int .i64 d5)) 6 (by kernel_rfl) ?_ (fun hHeld => ?_)
       · (try dsimp only); (first | exact k4 | exact k3)
       refine wpAnyJ_take0 (i := 0) (v := ?_) rfl (by kernel_rfl) (by kernel_rfl) (by kernel_rfl) (fun _ _ _ h => h) (by rfl) (Or.inl ⟨by rfl, ?_⟩) (by assumption) ?_
       rotate_left 1
       · intro w hSw; (try dsimp only at hSw); go_simp <;> (try with_reducible rfl)
       try simp only [Act.put, List.getElem_toArray, List.getElem_cons_succ, List.getElem_cons_zero, List.setIfInBounds_toArray, List.set_cons_zero, List.set_cons_succ]
       refine wpAnyJ_take (i := 1) (v := ?_) rfl (by kernel_rfl) (by kernel_rfl) (by kernel_rfl) (fun _ _ _ h => h) (by rfl) rfl (by kernel_rfl) (by kernel_rfl) (Or.inl ⟨by rfl, ?_⟩) (by assumption) ?_
       rotate_left 1
       · intro w hSw; (try dsimp only at hSw); go_simp <;> (try with_reducible rfl)
       try simp only [Act.put, List.getElem_toArray, List.getElem_cons_succ, List.getElem_cons_zero, List.setIfInBounds_toArray, List.set_cons_zero, List.set_cons_succ]
       refine wpAnyJ_take0 (i := 2) (v := ?_) rfl (by kernel_rfl) (by kernel_rfl) (by kernel_rfl) (fun _ _ _ h => h) (by rfl) (Or.inl ⟨by rfl, ?_⟩) (by assumption) ?_
       rotate_left 1
       · intro w hSw; (try dsimp only at hSw); go_simp <;> (try with_reducible rfl)
       try simp only [Act.put, List.getElem_toArray, List.getElem_cons_succ, List.getElem_cons_zero, List.setIfInBounds_toArray, List.set_cons_zero, List.set_cons_succ]
       refine wpAnyJ_ready (rs := [3]) (by kernel_rfl) (by simp) ?_
       refine AllReadyJ.cons (o := _) rfl (fun Kq hKq => ?_) ?_
       · go_simp
         go_at_call 18
         with_reducible refine hin2.out.mono ?_
         rintro e w8 ⟨rfl, t8, g8⟩
         have x8 := (g8.block g10 hg8l.out (fun e => hne10.out (Option.some.inj e).symm)).trans x7d.out
         have x8' : Box w8 g10 23 [.int .i64 d5, .int .i64 (a + d1 + d3)] := x8
         obtain ⟨k4, k5, f4, f5⟩ := box2_cells x8'
         go_wp2_with fail
         refine hKq.out _ _ ?_ (fun hHeld => ?_)
         · intro _; (try dsimp only); (first | exact k4 | exact k3)
         clear hKq Kq
         try simp only [Act.put, List.getElem_toArray, List.getElem_cons_succ, List.getElem_cons_zero, List.setIfInBounds_toArray, List.set_cons_zero, List.set_cons_succ]
         refine wpAnyJ_take0 (i := 4) (v := ?_) rfl (by kernel_rfl) (by kernel_rfl) (by kernel_rfl) (fun _ _ _ h => h) (by rfl) (Or.inl ⟨by rfl, ?_⟩) (by assumption) ?_
         rotate_left 1
         · intro w hSw; (try dsimp only at hSw); go_simp <;> (try with_reducible rfl)
         try simp only [Act.put, List.getElem_toArray, List.getElem_cons_succ, List.getElem_cons_zero, List.setIfInBounds_toArray, List.set_cons_zero, List.set_cons_succ]
         refine wpAnyJ_take0 (i := 5) (v := ?_) rfl (by kernel_rfl) (by kernel_rfl) (by kernel_rfl) (fun _ _ _ h => h) (by rfl) (Or.inl ⟨by rfl, ?_⟩) (by assumption) ?_
         rotate_left 1
         · intro w hSw; (try dsimp only at hSw); go_simp <;> (try with_reducible rfl)
         try simp only [Act.put, List.getElem_toArray, List.getElem_cons_succ, List.getElem_cons_zero, List.setIfInBounds_toArray, List.set_cons_zero, List.set_cons_succ]
         refine wpAnyJ_ready (rs := [6]) (by kernel_rfl) (by simp) ?_
         refine AllReadyJ.cons (o := _) rfl (fun Kq hKq => ?_) ?_
         · go_simp
           refine hKq.out _ _ ?_ (fun hHeld => ?_)
           · intro hl; exact absurd hl (by decide)
           clear hKq Kq
           try simp only [Act.put, List.getElem_toArray, List.getElem_cons_succ, List.getElem_cons_zero, List.setIfInBounds_toArray, List.set_cons_zero, List.set_cons_succ]
           refine wpAnyJ_done (by kernel_rfl) ?_ _
           have J4 := I7.out.tape hgb.out t8 g8
           have J5 := J4.poke hgb.out (G := g10) (j := 1) (v := .int .i64 (d5 + d6)) hb10.out hs10.out ho10.out
           have x9 := box_set2b x8' (.int .i64 (d5 + d6))
           clear k4 k5 f4 f5 x8 x8' J4
           generalize w8.setCell ⟨g10, 1, none⟩ (.int .i64 (d5 + d6)) = w9 at *
           have hd : Hid (HB (.slice A l.length c) l g w1.heap.size w (.slice As i cs) (.slice Ao i co) i g10 R.2.1.1 R.2.1.2 R.1.2 w9) := by show HB _ _ _ _ _ _ _ _ _ _ _ _ _; rw [hRR.out]; exact ⟨x9, J5⟩
           go_wp2_with fail
           go_meet
           exact hd.out
         exact AllReadyJ.nil
       exact AllReadyJ.nil
    case rest =>
    obtain ⟨x5, I5⟩ := hcut
    obtain ⟨w5', rfl⟩ : ∃ w5' : World, w5' = wc := ⟨_, rfl⟩
    obtain ⟨LO, hLO⟩ : ∃ z, R.2.1.1 = z := ⟨_, rfl⟩
    obtain ⟨HI, hHI⟩ : ∃ z, R.2.1.2 = z := ⟨_, rfl⟩
    rw [hLO, hHI] at x5
    replace e1 := e1.out
    replace e3 := hr.out
    rw [hLO, hHI] at e1
    replace e1 := Lib.hid e1
    have e4 : Hid ((hSt l (i + 1)).1 = a + d1) := by show _ = _; rw [e3]; exact hRa.out
    have e5 : Hid ((hSt l (i + 1)).2 = R.1.2) := by show _ = _; rw [e3]
    clear e3 hr c6 h5 x6 I6 hR0 hR1 hLO hHI
    obtain ⟨m0, m1, -, -⟩ := box2_cells x5
    have hal := balloc w5' (.cells #[.int .i64 LO, .int .i64 HI] 23)
    have hrec : Hid (Sees (w5'.alloc (.cells #[.int .i64 LO, .int .i64 HI] 23)) (w5'.heap.size + 1) (.slice (some ⟨w5'.heap.size, 0, none⟩) 1 1) 2 1 [.int .i64 LO, .int .i64 HI]) := rec_lit w5' 23 [.int .i64 LO, .int .i64 HI]
    have I6 := I5.below hal hgb.out
    clear hal I5 x5 hs10 ho10 hRa
    go_wp2_with (at_builtin; refine wpList_append_sees (by rfl) _ _ 28 rfl w1.heap.size 23 ti _ 2 16 Tryz.underlying28 hti.out htz.out hts.out htb.out rfl (by omega) _ i _ rfl I6.row _ _ 1 _ rfl hrec.out (by simp [Value.oneCell']) (by unfold maxLen; omega) (by omega) I6.size ?_)
    intro v7 w7 s7 g7 d7
    obtain ⟨Bs', cs', rfl, -, -⟩ := (Sees.of_own s7).mk_
    have I7 := I6.app1 hgb.out s7 g7 (by rw [World.size_alloc]; exact d7)
    rw [← e1.out] at I7
    clear I6 hrec s7 g7 d7 m0 m1
    have hal := balloc w7 (.cells #[.int .i64 y] 3)
    have hrec : Hid (Sees (w7.alloc (.cells #[.int .i64 y] 3)) (w7.heap.size + 1) (.slice (some ⟨w7.heap.size, 0, none⟩) 1 1) 1 1 [.int .i64 y]) := rec_lit w7 3 [.int .i64 y]
    have I9 := I7.below hal hgb.out
    clear I7 hal
    go_wp2_with (at_builtin; refine wpList_append_sees (by rfl) _ _ 24 rfl w1.heap.size 3 ti2 _ 1 8 Tryz.underlying24 hti2.out htz2.out hts2.out htb2.out rfl (by omega) _ i _ rfl I9.who _ _ 1 _ rfl hrec.out (by simp [Value.oneCell']) (by unfold maxLen; omega) (by omega) I9.size ?_)
    intro v10 w10 o10 g10' d10
    obtain ⟨Bo', co', rfl, -, -⟩ := (Sees.of_own o10).mk_
    have I10 := I9.app2 hgb.out o10 g10' (by rw [World.size_alloc]; exact d10)
    rw [← e2.out, ← e5.out] at I10
    clear I9 hrec o10 g10' d10
    go_wp2_with fail
    go_roundw
    case rel => first | exact ⟨i + 1, by omega, by rw [e4.out], by first | go_num | (congr 1; omega), I10⟩ | ((repeat apply Exists.intro); exact ⟨⟨i + 1, by omega, by rw [e4.out], by first | go_num | (congr 1; omega), I10⟩, rfl⟩)
    case measure => simp [intOf]; omega
  · obtain rfl : i = N := by omega
    have i0 : ¬ (0 : Int) < ((i - i : Nat) : Int) := by omega
    have hNp := hN2
    have hch := Lib.hid (kchainS_any v i (by omega) (hWh l) (hSp l) (hWF l i) (hF l i) (fun k hk => hWF_get l i k hk) (fun k hk => hF_get l i k hk) (fun k => by have := hWh_two l k; omega) (fun k hk => ⟨small_vS (hSp_small l k (by omega)), small_inS (hSp_small l k (by omega))⟩) _ _ wr (Sees.of_own I1.who) (Sees.of_own I1.row))
    have hb1 := I1.old
    rw [← hgg.out] at hb1
    clear I1 hti htz hts htb hti2 htz2 hts2 htb2 hN3 hr1 hgb
    go_wp2_with fail
    refine hch.out.mono ?_
    rintro e w2 ⟨v3, ls, rfl, o3, rfl, hel, hho, hb2⟩
    obtain ⟨g3, c3, rfl, hgb3, hgl3, hc3, hc4⟩ := o3.at_ (by omega)
    have hu0 := o3.own.sees
    replace hb2 := bgo hb1 hb2
    have hq0 := md v 1000 (by omega)
    have hwq : Hid (∀ W, Calls Tryz.prog 12 #[.int .i64 v, .int .i64 1000] W fun e w' => e = .returned (.int .i64 (v % 1000)) ∧ w' = W) := fun W => kwithin_any v 1000 (by omega) (by omega) W
    have hse0 : Hid (∀ q : Int, v % 1000 = q → randK (wrap64 (q * 10 + 100)) 32 = seedW v 0) := fun q h => by
     subst h
     rw [IntWalk.wrap64_in _ (by omega)]
     unfold seedW
     rw [Int.add_zero]
    generalize v % 1000 = q at *
    obtain ⟨q0, q1⟩ := hq0
    have hks := Lib.hid (fun W => ksignerS_any (q * 10) 1 W)
    clear o3 hch hb1 hgb3
    dsimp only
    go_wp2_with fail
    refine (hwq.out _).mono ?_
    rintro e w3 ⟨rfl, hw⟩
    obtain rfl := hw.symm
    dsimp only
    go_wp2_with fail
    refine (hks.out _).mono ?_
    rintro e w4 ⟨v5, v6, sd, pk, rfl, s5, hse, hsl, s6, hpe, hpl, -, hb4⟩
    have hhon : Hid (pk = pubG (seedW v 0) 1) := by
     show pk = _
     rw [hpe, hse, hse0.out q rfl]
     rfl
    clear hse hpe hse0 hsl hpl hwq hks
    obtain ⟨A5, c5, rfl, -, -⟩ := s5.mk_
    obtain ⟨A6, c6, rfl, -, -⟩ := s6.mk_
    have hbig := bgo hb4 (balloc w4 (.cells #[.slice A5 sd.length c5, .int .i64 1, .int .i64 0] 43))
    have hal := balloc w4 (.cells #[.slice A5 sd.length c5, .int .i64 1, .int .i64 0] 43)
    rw [show (1 : Int) % 2 = 1 from rfl]
    dsimp only
    go_upto_region 17 with (fail)
    have s7 := Lib.hid (seesB_of s6 (Nat.le_refl _) hal)
    have hb5 := Lib.hid (bgo hb2 hbig)
    have hu5 := (hu0.below hbig).more hbig.size
    clear hal hbig s5 s6 hb4 hb2 hu0
    generalize w4.alloc (.cells #[.slice A5 sd.length c5, .int .i64 1, .int .i64 0] 43) = W5 at *
    have he3 : ∀ t ∈ ls, t.1.length ≤ 1048576 ∧ t.2.1.length ≤ 1048576 ∧ t.2.2.length ≤ 1048576 := fun t ht => by have := hel t ht; omega
    have hpre := Lib.hid (fun i j (h1 : i < j) (h2 : j < ls.length) => chk_pre (l := l) (v := v) rfl hN4 hel hho h1 h2)
    have hall := Lib.hid (fun m (hm : m ≤ ls.length) => pre_all (l := l) (v := v) rfl hN4 hel hho m hm)
    have hkd : Hid (pubG (seedW v 1) 1 ≠ pk) := by show _ ≠ _; rw [hhon.out]; exact (keys_differ v).symm
    have hchk := Lib.hid (fun (j : Nat) (hj : j < ls.length) (i : Nat) W (hW : Below W5.heap.size W5 W) => by
     have hlen : (ls.take (j + 1)).length = j + 1 := by rw [List.length_take]; omega
     have sx := links_cut (a := 0) (b := j + 1) (hu5.below hW) rfl (by omega) (by omega)
     rw [Nat.sub_zero, Nat.sub_zero, cut_zero _ _ _ (by omega), List.drop_zero] at sx
     have := fcheck_any W5.heap.size (.slice (some ⟨g3, 0, none⟩) (j + 1) c3) (ls.take (j + 1)) (i : Int) (j : Int) W (by rw [hlen]; exact sx) hW.size (by omega) (fun t ht => he3 t (List.mem_of_mem_take ht))
     exact this)
    have hcut := Lib.hid (fun (j : Nat) (hj : j < ls.length) => by
     have hrc := run_cut_to (P := Tryz.prog) 26 Tryz.underlying26 3 link_size (some ⟨g3, 0, none⟩) ls.length c3 .i64 ((j : Int) + 1) (by omega) (by omega)
     rw [show ((j : Int) + 1).toNat = j + 1 by omega, Nat.sub_zero, Nat.sub_zero, cut_zero _ _ _ (by omega)] at hrc
     exact hrc)
    have hF := Lib.hid (bfind_any W5.heap.size _ ls W5 hu5 (Nat.le_refl _) (by omega) he3)
    have hF2 := Lib.hid (fun W (hW : Below W5.heap.size W5 W) => bfind_any W5.heap.size _ ls W (hu5.below hW) hW.size (by omega) he3)
    have hel := Lib.hid hel
    have hu5 := Lib.hid hu5
    have hkn := Lib.hid (fun W => fknown_any W)
    have hc30 : 0 < c3 := by omega
    clear hho he3 hF hc3 hc4 hgl3 hi hlt hNp
    go_wp2_with fail
    go_loopw [15] (fun t wr => ∃ j : Nat, 1 ≤ j ∧ j ≤ ls.length ∧ t = .int .i64 (j : Int) ∧ Hid (Below W5.heap.size W5 wr)) (fun t _ => ls.length - (intOf t).toNat)
    case atStart => exact ⟨1, by omega, by omega, rfl, Below.refl _ _⟩
    case round =>
     obtain ⟨j, hj1, hj, rfl, hbj⟩ := hrel
     by_cases hlj : j < ls.length
     · have j0 : (j : Int) < (ls.length : Int) := by omega
       go_wp2_with fail
       go_loopw [16] (fun t wi => ∃ i : Nat, i ≤ j ∧ t = .int .i64 (i : Int) ∧ Hid (Below W5.heap.size W5 wi)) (fun t _ => j - (intOf t).toNat)
       case atStart => exact ⟨0, by omega, rfl, hbj.out⟩
       case round =>
        obtain ⟨i, hij, rfl, hbi⟩ := hrel
        by_cases hli : i < j
        · have i1 : (i : Int) < (j : Int) := by omega
          have hck := hchk.out j hlj i wr hbi.out
          have hrc := hcut.out j hlj
          rcases hpre.out i j hli hlj with ⟨-, hc, hB⟩ | ⟨-, hc⟩
          · unfold FChkP at hck
            rw [hc, hB] at hck
            replace hck := Lib.hid hck
            clear hc hB
            go_wp2_with fail
            refine hck.out.mono ?_
            rintro e w6 ⟨v6, rfl, s6, hb6⟩
            have hsm := rsame_any _ _ _ _ _ _ w6 s6 (s7.out.below (bgo hbi.out hb6))
            rw [beq_eq_false_iff_ne.2 hkd.out] at hsm
            have hb7 := Lib.hid (bgo hbi.out hb6)
            obtain ⟨A9, c9, hv9, -, -⟩ := s6.mk_
            rw [hv9] at hsm ⊢
            replace hsm := Lib.hid hsm
            clear hck hrc s6 hb6
            dsimp only
            go_wp2_with fail
            refine hsm.out.mono ?_
            rintro e w8 ⟨rfl, hw⟩
            obtain rfl := hw.symm
            clear hsm
            dsimp only
            go_wp2_with fail
            go_roundw
            case rel => exact ⟨i + 1, by omega, by go_num, hb7.out⟩
            case measure => simp [intOf]; omega
          · unfold FChkP at hck
            rw [hc] at hck
            replace hck := Lib.hid hck
            clear hc
            go_wp2_with fail
            refine hck.out.mono ?_
            rintro e w6 ⟨v6, rfl, s6, hb6⟩
            have hb7 := Lib.hid (bgo hbi.out hb6)
            clear hck hrc s6 hb6
            dsimp only
            go_wp2_with fail
            go_roundw
            case rel => exact ⟨i + 1, by omega, by go_num, hb7.out⟩
            case measure => simp [intOf]; omega
        · obtain rfl : i = j := by omega
          go_wp2_with fail
          go_roundw
          case rel => exact ⟨i + 1, by omega, by omega, by go_num, hbi.out⟩
          case measure => simp [intOf]; omega
     · have j0 : ¬ (j : Int) < (ls.length : Int) := by omega
       have hC := (hall.out ls.length (Nat.le_refl _)).1
       rw [List.take_of_length_le (Nat.le_refl _)] at hC
       replace hC := Lib.hid hC
       go_wp2_with fail
       refine (hF2.out wr hbj.out).mono ?_
       intro e w6 h6
       rcases h6 with ⟨h, -⟩ | ⟨-, hr, rfl, hb6⟩ | ⟨-, i, j', v6, hr, rfl, s6, hb6⟩
       · exact absurd hC.out h
       · have hb7 := Lib.hid (bgo (bgo (bgo hb5.out hbj.out) hb6) (balloc w6 (.cells #[.slice none 0 0, .int .i64 0, .int .i64 0] 30)))
         clear hr hb6 hall hpre hchk hcut hF2 hel hu5
         dsimp only
         go_upto_region 27 with (fail)
         generalize w6.alloc (.cells #[.slice none 0 0, .int .i64 0, .int .i64 0] 30) = W7 at *
         go_wp2_with fail
         refine (hkn.out _).mono ?_
         rintro e w8 ⟨rfl, hb8⟩
         have hb9 := Lib.hid (bgo hb7.out hb8)
         dsimp only
         go_wp2_with fail
         go_ret
         exact ⟨rfl, hb9.out⟩
       · obtain ⟨hij, hjl, hag, -, -⟩ := hr
         have hcB : fchkC (ls.take (j' + 1)) (i : Int) (j' : Int) = 0 ∧ fchkB (ls.take (j' + 1)) (i : Int) (j' : Int) = pubG (seedW v 1) 1 := by
          rcases hpre.out i j' hij hjl with ⟨-, a, b⟩ | ⟨a, -⟩
          · exact ⟨a, b⟩
          · rw [hag] at a; cases a
         have hlen : (ls.take (j' + 1)).length = j' + 1 := by rw [List.length_take]; omega
         have sx := links_cut (a := 0) (b := j' + 1) hu5.out rfl (by omega) (by omega)
         rw [Nat.sub_zero, Nat.sub_zero, cut_zero _ _ _ hc30, List.drop_zero] at sx
         have hrc := hcut.out j' hjl
         have helt : ∀ t ∈ ls.take (j' + 1), t.1.length = 32 ∧ t.2.1.length = 32 ∧ t.2.2.length ≤ 2048 := fun t ht => hel.out t (List.mem_of_mem_take ht)
         replace sx : SeesR W5 W5.heap.size (.slice (some ⟨g3, 0, none⟩) (ls.take (j' + 1)).length c3) 3 (ls.take (j' + 1)).length (linkS (ls.take (j' + 1))) := by rw [hlen]; exact sx
         replace hrc : ∀ w : World, (Instr.slice 26 (.slice (some ⟨g3, 0, none⟩) ls.length c3) none (some (.int .i64 ((ls.take (j' + 1)).length : Int))) none).run Tryz.prog w = .ok (.slice (some ⟨g3, 0, none⟩) (ls.take (j' + 1)).length c3) w := fun w => by rw [hlen, Int.natCast_succ]; exact hrc w
         have hl4 : (ls.take (j' + 1)).length ≤ 4 := by omega
         generalize ls.take (j' + 1) = lt at *
         have hen : fencC lt (i : Int) (j' : Int) = 0 := by
          unfold fencC
          rw [if_neg (by omega), if_pos ⟨by omega, by omega, by omega, by omega⟩]
         have hws : lt.length ≤ 8 → (wrF (encF lt 0 0)).length ≤ 65535 := fun h8 => enc_small h8 helt
         have hdo := decOut_enc hen hws
         have hfl := fencB_len (ls := lt) (f := (i : Int)) (s := (j' : Int)) hws
         have he3 : ∀ t ∈ lt, t.1.length ≤ 1048576 ∧ t.2.1.length ≤ 1048576 ∧ t.2.2.length ≤ 1048576 := fun t ht => by have := helt t ht; omega
         obtain ⟨A7, c7, rfl, -, -⟩ := s6.mk_
         have hck := Lib.hid (fun u W (hu : SeesR W W.heap.size u 3 lt.length (linkS lt)) => fcheck_any W.heap.size u lt (i : Int) (j' : Int) W hu (Nat.le_refl _) (by omega) he3)
         unfold FChkP at hck
         rw [hcB.1, hcB.2] at hck
         have hec := Lib.hid (fun u W (hu : SeesR W W.heap.size u 3 lt.length (linkS lt)) => bencode_any u lt (i : Int) (j' : Int) W hu hws)
         unfold FEncP at hec
         rw [hen] at hec
         have hde := Lib.hid (fun u W (hu : SeesB W W.heap.size u (fencB lt (i : Int) (j' : Int))) => (bdecode_any u _ W hu hfl).mono (fun e w' h => dec_same hdo h))
         generalize fencB lt (i : Int) (j' : Int) = FB at *
         have hbw := bgo (bgo hb5.out hbj.out) hb6
         have hb56 := bgo hbj.out hb6
         have hal := balloc w6 (.cells #[.slice A7 lt.length c7, .int .i64 (i : Int), .int .i64 (j' : Int)] 30)
         have x19 := Box.new w6 30 [.slice A7 lt.length c7, .int .i64 (i : Int), .int .i64 (j' : Int)]
         change Box (w6.alloc (.cells #[.slice A7 lt.length c7, .int .i64 (i : Int), .int .i64 (j' : Int)] 30)) _ _ _ at x19
         have s7' := (s6.below hal).more hal.size
         have hbw7 := bgo hbw hal
         have hb57 := bgo hb56 hal
         have hl4 := Lib.hid hl4
         have hij := Lib.hid hij
         have hjl := Lib.hid hjl
         clear hag hcB hlen helt hen hws hdo hfl he3 s6 hbw hb56 hal hb6 hall hpre hchk hcut hF2 hel hu5
         dsimp only
         go_upto_region 27 with (fail)
         generalize w6.alloc (.cells #[.slice A7 lt.length c7, .int .i64 (i : Int), .int .i64 (j' : Int)] 30) = W7 at *
         generalize w6.heap.size = g19 at *
         obtain ⟨k0, k1, k2, -, -, -⟩ := box3_cells x19
         have ck1 := Lib.hid (hck.out _ W7 s7')
         go_wp2_with fail
         refine ck1.out.mono ?_
         rintro e w8 ⟨v8, rfl, s8, hb8⟩
         clear ck1 k0 k1 k2
         replace x19 := x19.below hb8
         replace s7' := (s7'.below hb8).more hb8.size
         replace hbw7 := bgo hbw7 hb8
         replace hb57 := bgo hb57 hb8
         obtain ⟨k0, k1, k2, -, -, -⟩ := box3_cells x19
         obtain ⟨A8, c8, hv8, -, -⟩ := s8.mk_
         have ec := Lib.hid (hec.out _ w8 s7')
         rw [hv8] at s8 ⊢
         clear hv8
         dsimp only
         go_wp2_with fail
         refine ec.out.mono ?_
         rintro e w9 ⟨v9, rfl, o9, hb9⟩
         have s9 := o9.sees
         obtain ⟨A9, c9, hv9, -, -⟩ := s9.mk_
         have dc := Lib.hid (hde.out _ w9 s9)
         rw [hv9] at dc ⊢
         replace x19 := x19.below hb9
         replace s7' := (s7'.below hb9).more hb9.size
         replace s8 := (s8.below hb9).more hb9.size
         replace hbw7 := bgo hbw7 hb9
         replace hb57 := bgo hb57 hb9
         clear hv9 ec o9 s9 hb9 hec hde k0 k1 k2
         dsimp only
         go_wp2_with fail
         refine dc.out.mono ?_
         rintro e w10 ⟨v10, rfl, s10, hb10⟩
         obtain ⟨A10, c10, rfl, -, -⟩ := s10.mk_
         have hal := balloc w10 (.cells #[.slice A10 lt.length c10, .int .i64 (i : Int), .int .i64 (j' : Int)] 30)
         have x26 := Box.new w10 30 [.slice A10 lt.length c10, .int .i64 (i : Int), .int .i64 (j' : Int)]
         change Box (w10.alloc (.cells #[.slice A10 lt.length c10, .int .i64 (i : Int), .int .i64 (j' : Int)] 30)) _ _ _ at x26
         have hbb := bgo hb10 hal
         replace x19 := x19.below hbb
         replace s7' := (s7'.below hbb).more hbb.size
         replace s8 := (s8.below hbb).more hbb.size
         replace hbw7 := bgo hbw7 hbb
         replace hb57 := bgo hb57 hbb
         have ck2 := Lib.hid (hck.out _ _ ((s10.below hal).more hal.size))
         clear dc hbb hal hb10 s10 hck
         dsimp only
         go_upto_region 32 with (fail)
         generalize w10.alloc (.cells #[.slice A10 lt.length c10, .int .i64 (i : Int), .int .i64 (j' : Int)] 30) = W10 at *
         generalize w10.heap.size = g26 at *
         obtain ⟨k0, k1, k2, -, -, -⟩ := box3_cells x26
         go_wp2_with fail
         refine ck2.out.mono ?_
         rintro e w11 ⟨v11, rfl, s11, hb11⟩
         replace x19 := x19.below hb11
         replace s7' := (s7'.below hb11).more hb11.size
         replace s8 := (s8.below hb11).more hb11.size
         replace hbw7 := Lib.hid (bgo hbw7 hb11)
         replace hb57 := Lib.hid (bgo hb57 hb11)
         obtain ⟨A11, c11, hv11, -, -⟩ := s11.mk_
         rw [hv11] at s11 ⊢
         clear k0 k1 k2 ck2 hv11 x26 hb11
         have q1 := Lib.hid (fun W (hW : Below w11.heap.size w11 W) => by
          have := rsame_any _ _ _ _ _ _ W (s8.below hW) (s7.out.below (bgo hb57.out hW))
          rw [beq_eq_false_iff_ne.2 hkd.out] at this
          exact this)
         have q2 := Lib.hid (fun W (hW : Below w11.heap.size w11 W) => rsame_eq _ _ _ _ _ W (s8.below hW) (s11.below hW))
         have q3 := Lib.hid (fun W (hW : Below w11.heap.size w11 W) => rcsame_eq _ _ lt W ((s7'.below hW).more hW.size) ((sx.below (bgo hb57.out hW)).more (bgo hb57.out hW).size) (by have := hl4.out; omega))
         have K := Lib.hid (fun W (hW : Below w11.heap.size w11 W) => (x19.below hW).cell 0)
         simp only [List.getElem?_cons_zero] at K
         have k3 := K.out _ (bdrew w11)
         generalize pubG (seedW v 1) 1 = KB at *
         clear x19 s7' s8 s11 sx
         dsimp only
         go_upto_region 33 with (fail)
         go_region_held3 (fun W' : World => W'.cell? ⟨g19, 0, none⟩ = some (.slice A7 lt.length c7))
          (first | (with_reducible exact K.out _ (by (repeat (first | exact Below.refl _ _ | (refine bgo ?_ (balloc _ _)) | (refine bgo ?_ (bdrew _)) | (refine bgo ?_ (by assumption)))))) | (go_keep; done))
          (first
           | (go_at_call 16; (with_reducible refine (hkn.out _).mono ?_); rintro e w12 ⟨rfl, hb12⟩)
           | (go_at_call 20; (with_reducible refine (q1.out _ (by (repeat (first | exact Below.refl _ _ | (refine bgo ?_ (balloc _ _)) | (refine bgo ?_ (bdrew _)) | (refine bgo ?_ (by assumption)))))).mono ?_); rintro e w13 ⟨rfl, hw⟩; obtain rfl := hw.symm)
           | (go_at_call 20; (with_reducible refine (q2.out _ (by (repeat (first | exact Below.refl _ _ | (refine bgo ?_ (balloc _ _)) | (refine bgo ?_ (bdrew _)) | (refine bgo ?_ (by assumption)))))).mono ?_); rintro e w13 ⟨rfl, hw⟩; obtain rfl := hw.symm)
           | (go_at_call 23; (with_reducible refine (q3.out _ (by (repeat (first | exact Below.refl _ _ | (refine bgo ?_ (balloc _ _)) | (refine bgo ?_ (bdrew _)) | (refine bgo ?_ (by assumption)))))).mono ?_); rintro e w14 ⟨rfl, hb14⟩))
         all_goals
          have hb15 := Lib.hid (bgo (bgo (bgo hbw7.out (bdrew w11)) hb12) hb14)
          go_wp2_with fail
          go_ret
          exact ⟨rfl, hb15.out⟩
end Go.Proofs.YtgehkgjllhkhoaaGreat

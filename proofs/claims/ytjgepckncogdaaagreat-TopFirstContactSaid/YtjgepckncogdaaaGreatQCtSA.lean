/- What a law leans on beyond the base: contracts, plain functions, walks. Conditions: those of each theorem. -/
import Derived.Test.YtjgepckncogdaaaGreatQCtM
import Derived.Test.YtjgepckncogdaaaGreatQHeldJ
set_option linter.unusedVariables false
set_option linter.unusedSimpArgs false
namespace Go.Proofs.YtjgepckncogdaaaGreat
open Go Go.RowKit
set_option linter.unusedVariables false
set_option linter.unusedSimpArgs false
attribute [local go_sem ↓] Go.wp_at_zero Go.wp_at_succ
set_option maxRecDepth 100000 in
set_option maxHeartbeats 4000000 in
theorem csigned_any (B : Nat) (u : Value) (n p : Bs) (f t : Int) (As : Option Addr) (ns cs : Nat) (w : World) (hu : SeesB w B u p) (hB : B ≤ w.heap.size) (hn : n.length ≤ 1048576) (hp : p.length ≤ 1048576) :
 Calls Tryz.prog 111 #[.agg #[.string (strB n), u, .int .i64 f, .int .i64 t, .slice As ns cs]] w (Gives (tCert ++ putB 2 n.length ++ n ++ p ++ spanL f t) w) := by
 obtain ⟨A, c, rfl, -, -⟩ := hu.mk_
 obtain ⟨cp, nx, hst⟩ := str_run n hn
 have hsz0 := strB_size n
 have m1 : IntKind.u64.wrap (n.length : Int) = (n.length : Int) := by rw [IntKind.wrap_u64]; omega
 have hpt := fun W => put_any n.length 2 (by omega) (by omega) W
 have hpl := putB_len 2 n.length
 generalize strB n = S0 at *
 replace hst := Lib.hid hst
 replace hpt := Lib.hid hpt
 have hal := Lib.hid (balloc w (.cells #[.string S0, .slice A p.length c, .int .i64 f, .int .i64 t, .slice As ns cs] 70))
 have hx := Box.new w 70 [.string S0, .slice A p.length c, .int .i64 f, .int .i64 t, .slice As ns cs]
 change Box (w.alloc (.cells #[.string S0, .slice A p.length c, .int .i64 f, .int .i64 t, .slice As ns cs] 70)) _ _ _ at hx
 have sp0 := seesB_of hu hB hal.out
 clear hu
 go_enter Tryz.func111, Tryz.ntmps111
 go_upto_region 1 with (fail)
 generalize w.alloc (.cells #[.string S0, .slice A p.length c, .int .i64 f, .int .i64 t, .slice As ns cs] 70) = W0 at *
 generalize hgg : w.heap.size = g at hx ⊢
 replace hgg := Lib.hid hgg
 obtain ⟨-, -, y2, y3, -⟩ := box5_cells hx
 have hsl : (spanL f t).length ≤ 16 := by unfold spanL; split <;> simp [spanB, putB_len]
 go_wp2_with fail
 refine (span_any f t _).mono ?_
 rintro e W2 ⟨v, rfl, h2, hb2⟩
 have hbw := Lib.hid (bgo hal.out hb2)
 have hx2 := hx.below hb2
 have sp := Lib.hid (seesB_of sp0 (Nat.le_refl _) hb2)
 have ssl := Lib.hid h2.sees
 obtain ⟨A2, c2, rfl, -, -⟩ := h2.sees.mk_
 generalize spanL f t = SL at *
 have hfl : Hid ([tCert, putB 2 n.length, n, p, SL].flatten = tCert ++ putB 2 n.length ++ n ++ p ++ SL) := by show _ = _; simp
 have hlen : Hid ([tCert, putB 2 n.length, n, p, SL].flatten.length ≤ 1099511627776) := by show _ ≤ _; rw [hfl.out]; simp only [List.length_append, hpl]; simp [tCert]; omega
 generalize hM : tCert ++ putB 2 n.length ++ n ++ p ++ SL = M at *
 replace hM := Lib.hid hM
 have K : Hid (∀ W : World, Below W2.heap.size W2 W → W.cell? ⟨g, 0, none⟩ = some (.string S0) ∧ W.cell? ⟨g, 1, none⟩ = some (.slice A p.length c)) := fun W hW => ⟨(hx2.below hW).cell 0, (hx2.below hW).cell 1⟩
 have hbC := Lib.hid (bdrew W2)
 replace hpl := Lib.hid hpl
 clear sp0 h2 hb2 hx hx2 y2 y3 hal
 dsimp only
 go_upto_region 2 with (fail)
 refine wp_region_J (fun W' : World => W'.cell? ⟨g, 0, none⟩ = some (.string S0) ∧ W'.cell? ⟨g, 1, none⟩ = some (.slice A p.length c)) 15 (by kernel_rfl) ?_ (fun hHeld => ?_)
 · (try dsimp only); (first | exact K.out _ hbC.out | exact K.out _ (bdrew W2) | exact K.out _ (bgo hbC.out (balloc _ _)))
 generalize W2.drew = X at *
 refine wpAnyJ_take0 (i := 2) (v := ?_) rfl (by kernel_rfl) (by kernel_rfl) (by kernel_rfl) (fun _ _ _ h => h) (by rfl) (Or.inl ⟨by rfl, ?_⟩) (by assumption) ?_
 rotate_left 1
 · intro w hSw; (try dsimp only at hSw); go_simp <;> (try with_reducible rfl)
 try simp only [Act.put, List.getElem_toArray, List.getElem_cons_succ, List.getElem_cons_zero, List.setIfInBounds_toArray, List.set_cons_zero, List.set_cons_succ]
 refine wpAnyJ_take (i := 3) (v := ?_) rfl (by kernel_rfl) (by kernel_rfl) (by kernel_rfl) (fun _ _ _ h => h) (by rfl) rfl (by kernel_rfl) (by kernel_rfl) (Or.inl ⟨by rfl, ?_⟩) (by assumption) ?_
 rotate_left 1
 · intro w hSw; (try dsimp only at hSw); go_simp <;> (try with_reducible rfl)
 try simp only [Act.put, List.getElem_toArray, List.getElem_cons_succ, List.getElem_cons_zero, List.setIfInBounds_toArray, List.set_cons_zero, List.set_cons_succ]
 refine wpAnyJ_take0 (i := 4) (v := ?_) rfl (by kernel_rfl) (by kernel_rfl) (by kernel_rfl) (fun _ _ _ h => h) (by rfl) (Or.inl ⟨by rfl, ?_⟩) (by assumption) ?_
 rotate_left 1
 · intro w hSw; (try dsimp only at hSw); go_simp <;> (try with_reducible rfl)
 try simp only [Act.put, List.getElem_toArray, List.getElem_cons_succ, List.getElem_cons_zero, List.setIfInBounds_toArray, List.set_cons_zero, List.set_cons_succ]
 refine wpAnyJ_take0 (i := 5) (v := ?_) rfl (by kernel_rfl) (by kernel_rfl) (by kernel_rfl) (fun _ _ _ h => h) (by rfl) (Or.inl ⟨by rfl, ?_⟩) (by assumption) ?_
 rotate_left 1
 · intro w hSw; (try dsimp only at hSw); go_simp <;> (try with_reducible rfl)
 try simp only [Act.put, List.getElem_toArray, List.getElem_cons_succ, List.getElem_cons_zero, List.setIfInBounds_toArray, List.set_cons_zero, List.set_cons_succ]
 refine wpAnyJ_take0 (i := 7) (v := ?_) rfl (by kernel_rfl) (by kernel_rfl) (by kernel_rfl) (fun _ _ _ h => h) (by rfl) (Or.inl ⟨by rfl, ?_⟩) (by assumption) ?_
 rotate_left 1
 · intro w hSw; (try dsimp only at hSw); go_simp <;> (try with_reducible rfl)
 try simp only [Act.put, List.getElem_toArray, List.getElem_cons_succ, List.getElem_cons_zero, List.setIfInBounds_toArray, List.set_cons_zero, List.set_cons_succ]
 refine wpAnyJ_take (i := 8) (v := ?_) rfl (by kernel_rfl) (by kernel_rfl) (by kernel_rfl) (fun _ _ _ h => h) (by rfl) rfl (by kernel_rfl) (by kernel_rfl) (Or.inl ⟨by rfl, ?_⟩) (by assumption) ?_
 rotate_left 1
 · intro w hSw; (try dsimp only at hSw); go_simp <;> (try with_reducible rfl)
 try simp only [Act.put, List.getElem_toArray, List.getElem_cons_succ, List.getElem_cons_zero, List.setIfInBounds_toArray, List.set_cons_zero, List.set_cons_succ]
 refine wpAnyJ_take0 (i := 10) (v := ?_) rfl (by kernel_rfl) (by kernel_rfl) (by kernel_rfl) (fun _ _ _ h => h) (by rfl) (Or.inl ⟨by rfl, ?_⟩) (by assumption) ?_
 rotate_left 1
 · intro w hSw; (try dsimp only at hSw); go_simp <;> (try with_reducible rfl)
 try simp only [Act.put, List.getElem_toArray, List.getElem_cons_succ, List.getElem_cons_zero, List.setIfInBounds_toArray, List.set_cons_zero, List.set_cons_succ]
 refine wpAnyJ_take (i := 11) (v := ?_) rfl (by kernel_rfl) (by kernel_rfl) (by kernel_rfl) (fun _ _ _ h => h) (by rfl) rfl (by kernel_rfl) (by kernel_rfl) (Or.inl ⟨by rfl, ?_⟩) (by assumption) ?_
 rotate_left 1
 · intro w hSw; (try dsimp only at hSw); go_simp <;> (try with_reducible rfl)
 try simp only [Act.put, List.getElem_toArray, List.getElem_cons_succ, List.getElem_cons_zero, List.setIfInBounds_toArray, List.set_cons_zero, List.set_cons_succ]
 refine wpAnyJ_take0 (i := 12) (v := ?_) rfl (by kernel_rfl) (by kernel_rfl) (by kernel_rfl) (fun _ _ _ h => h) (by rfl) (Or.inl ⟨by rfl, ?_⟩) (by assumption) ?_
 rotate_left 1
 · intro w hSw; (try dsimp only at hSw); go_simp <;> (try with_reducible rfl)
 try simp only [Act.put, List.getElem_toArray, List.getElem_cons_succ, List.getElem_cons_zero, List.setIfInBounds_toArray, List.set_cons_zero, List.set_cons_succ]
 refine wpAnyJ_ready (rs := [0, 6, 9]) (by kernel_rfl) (by simp) ?_
 refine AllReadyJ.cons (o := _) rfl (fun Kq hKq => ?_) ?_
 · go_simp
   have hal := balloc X (.cells #[.int .u8 115, .int .u8 101, .int .u8 99, .int .u8 116, .int .u8 105, .int .u8 109, .int .u8 101, .int .u8 32, .int .u8 99, .int .u8 101, .int .u8 114, .int .u8 116] 5)
   have hG := Box.new X 5 certL
   change Box (X.alloc (.cells #[.int .u8 115, .int .u8 101, .int .u8 99, .int .u8 116, .int .u8 105, .int .u8 109, .int .u8 101, .int .u8 32, .int .u8 99, .int .u8 101, .int .u8 114, .int .u8 116] 5)) _ _ _ at hG
   have hgL := hbC.out.size
   replace hbC := Lib.hid (bgo hbC.out hal)
   clear hal
   generalize X.heap.size = gL at hG hgL ⊢
   generalize X.alloc (.cells #[.int .u8 115, .int .u8 101, .int .u8 99, .int .u8 116, .int .u8 105, .int .u8 109, .int .u8 101, .int .u8 32, .int .u8 99, .int .u8 101, .int .u8 114, .int .u8 116] 5) = X at *
   refine hKq.out _ _ ?_ (fun hHeld => ?_)
   · intro _; (try dsimp only); (first | exact K.out _ hbC.out | exact K.out _ (bdrew W2) | exact K.out _ (bgo hbC.out (balloc _ _)))
   clear hKq Kq
   try simp only [Act.put, List.getElem_toArray, List.getElem_cons_succ, List.getElem_cons_zero, List.setIfInBounds_toArray, List.set_cons_zero, List.set_cons_succ]
   refine wpAnyJ_ready (rs := [1, 6, 9]) (by kernel_rfl) (by simp) ?_
   refine AllReadyJ.cons (o := _) rfl (fun Kq hKq => ?_) ?_
   · skip
     have hcv : (convert 25 25 (.slice (some ⟨gL, 0, none⟩) 12 12)).run Tryz.prog X = .ok (.slice (some ⟨gL, 0, none⟩) 12 12) (markW X gL 12) := mark_run X gL 12 12 certL hG
     go_simp
     have hL := seesB_mark (tcert_sees X gL hG) gL 12
     replace hbC := Lib.hid (mark_below hbC.out gL 12 hgL)
     clear hG hcv hgL
     generalize markW X gL 12 = X at *
     refine hKq.out _ _ ?_ (fun hHeld => ?_)
     · intro _; (try dsimp only); (first | exact K.out _ hbC.out | exact K.out _ (bdrew W2) | exact K.out _ (bgo hbC.out (balloc _ _)))
     clear hKq Kq
     try simp only [Act.put, List.getElem_toArray, List.getElem_cons_succ, List.getElem_cons_zero, List.setIfInBounds_toArray, List.set_cons_zero, List.set_cons_succ]
     refine wpAnyJ_ready (rs := [6, 9]) (by kernel_rfl) (by simp) ?_
     refine AllReadyJ.cons (o := _) rfl (fun Kq hKq => ?_) ?_
     · go_simp
       go_at_call 74
       refine (hpt.out _).mono ?_
       rintro e X ⟨vP, rfl, hP, hal⟩
       obtain ⟨AP, cP, rfl, -, -⟩ := hP.sees.mk_
       replace hP := hP.sees
       replace hL := seesB_of hL (Nat.le_refl _) hal
       replace hbC := Lib.hid (bgo hbC.out hal)
       clear hal
       go_wp2_with fail
       refine hKq.out _ _ ?_ (fun hHeld => ?_)
       · intro _; (try dsimp only); (first | exact K.out _ hbC.out | exact K.out _ (bdrew W2) | exact K.out _ (bgo hbC.out (balloc _ _)))
       clear hKq Kq
       try simp only [Act.put, List.getElem_toArray, List.getElem_cons_succ, List.getElem_cons_zero, List.setIfInBounds_toArray, List.set_cons_zero, List.set_cons_succ]
       refine wpAnyJ_ready (rs := [9]) (by kernel_rfl) (by simp) ?_
       refine AllReadyJ.cons (o := _) rfl (fun Kq hKq => ?_) ?_
       · skip
         obtain ⟨hcv, hN, hal⟩ := hst.out X
         go_simp
         replace hL := seesB_of hL (Nat.le_refl _) hal
         replace hP := seesB_of hP (Nat.le_refl _) hal
         replace hbC := Lib.hid (bgo hbC.out hal)
         clear hal hcv
         generalize X.heap.size = gN at hN ⊢
         generalize cp X = cN at hN ⊢
         generalize nx X = X at *
         refine hKq.out _ _ ?_ (fun hHeld => ?_)
         · intro _; (try dsimp only); (first | exact K.out _ hbC.out | exact K.out _ (bdrew W2) | exact K.out _ (bgo hbC.out (balloc _ _)))
         clear hKq Kq
         try simp only [Act.put, List.getElem_toArray, List.getElem_cons_succ, List.getElem_cons_zero, List.setIfInBounds_toArray, List.set_cons_zero, List.set_cons_succ]
         refine wpAnyJ_ready (rs := [13]) (by kernel_rfl) (by simp) ?_
         refine AllReadyJ.cons (o := _) rfl (fun Kq hKq => ?_) ?_
         · go_simp
           refine hKq.out _ _ ?_ (fun hHeld => ?_)
           · intro _; (try dsimp only); (first | exact K.out _ hbC.out | exact K.out _ (bdrew W2) | exact K.out _ (bgo hbC.out (balloc _ _)))
           clear hKq Kq
           try simp only [Act.put, List.getElem_toArray, List.getElem_cons_succ, List.getElem_cons_zero, List.setIfInBounds_toArray, List.set_cons_zero, List.set_cons_succ]
           refine wpAnyJ_ready (rs := [14]) (by kernel_rfl) (by simp) ?_
           refine AllReadyJ.cons (o := _) rfl (fun Kq hKq => ?_) ?_
           · go_simp
             go_at_call 70
             refine (join_lit (vs := [_, _, _, _, _]) [tCert, putB 2 n.length, n, p, SL] X X X.heap.size rfl (Below.refl _ _) ⟨hL, hP, hN, seesB_of sp.out (Nat.le_refl _) hbC.out, seesB_of ssl.out (Nat.le_refl _) hbC.out, trivial⟩ (by simp) hlen.out).mono ?_
             rintro e w9 ⟨v9, rfl, h9, hb9⟩
             have hsz := Nat.le_trans hbw.out.size hbC.out.size
             replace hbC := Lib.hid (bgo hbC.out hb9)
             go_wp2_with fail
             refine hKq.out _ _ ?_ (fun hHeld => ?_)
             · intro _; (try dsimp only); (first | exact K.out _ hbC.out | exact K.out _ (bdrew W2) | exact K.out _ (bgo hbC.out (balloc _ _)))
             clear hKq Kq
             try simp only [Act.put, List.getElem_toArray, List.getElem_cons_succ, List.getElem_cons_zero, List.setIfInBounds_toArray, List.set_cons_zero, List.set_cons_succ]
             refine wpAnyJ_ready (rs := [15]) (by kernel_rfl) (by simp) ?_
             refine AllReadyJ.cons (o := _) rfl (fun Kq hKq => ?_) ?_
             · go_simp
               refine hKq.out _ _ ?_ (fun hHeld => ?_)
               · intro hl; exact absurd hl (by decide)
               clear hKq Kq
               try simp only [Act.put, List.getElem_toArray, List.getElem_cons_succ, List.getElem_cons_zero, List.setIfInBounds_toArray, List.set_cons_zero, List.set_cons_succ]
               refine wpAnyJ_done (by kernel_rfl) ?_ _
               go_wp2_with fail
               go_ret
               rw [hfl.out] at h9
               exact ⟨v9, rfl, h9.mono hsz, bgo hbw.out hbC.out⟩
             exact AllReadyJ.nil
           exact AllReadyJ.nil
         exact AllReadyJ.nil
       exact AllReadyJ.nil
     refine AllReadyJ.cons (o := _) rfl (fun Kq hKq => ?_) ?_
     · skip
       obtain ⟨hcv, hN, hal⟩ := hst.out X
       go_simp
       replace hL := seesB_of hL (Nat.le_refl _) hal
       replace hbC := Lib.hid (bgo hbC.out hal)
       clear hal hcv
       generalize X.heap.size = gN at hN ⊢
       generalize cp X = cN at hN ⊢
       generalize nx X = X at *
       refine hKq.out _ _ ?_ (fun hHeld => ?_)
       · intro _; (try dsimp only); (first | exact K.out _ hbC.out | exact K.out _ (bdrew W2) | exact K.out _ (bgo hbC.out (balloc _ _)))
       clear hKq Kq
       try simp only [Act.put, List.getElem_toArray, List.getElem_cons_succ, List.getElem_cons_zero, List.setIfInBounds_toArray, List.set_cons_zero, List.set_cons_succ]
       refine wpAnyJ_ready (rs := [6]) (by kernel_rfl) (by simp) ?_
       refine AllReadyJ.cons (o := _) rfl (fun Kq hKq => ?_) ?_
       · go_simp
         go_at_call 74
         refine (hpt.out _).mono ?_
         rintro e X ⟨vP, rfl, hP, hal⟩
         obtain ⟨AP, cP, rfl, -, -⟩ := hP.sees.mk_
         replace hP := hP.sees
         replace hL := seesB_of hL (Nat.le_refl _) hal
         replace hN := seesB_of hN (Nat.le_refl _) hal
         replace hbC := Lib.hid (bgo hbC.out hal)
         clear hal
         go_wp2_with fail
         refine hKq.out _ _ ?_ (fun hHeld => ?_)
         · intro _; (try dsimp only); (first | exact K.out _ hbC.out | exact K.out _ (bdrew W2) | exact K.out _ (bgo hbC.out (balloc _ _)))
         clear hKq Kq
         try simp only [Act.put, List.getElem_toArray, List.getElem_cons_succ, List.getElem_cons_zero, List.setIfInBounds_toArray, List.set_cons_zero, List.set_cons_succ]
         refine wpAnyJ_ready (rs := [13]) (by kernel_rfl) (by simp) ?_
         refine AllReadyJ.cons (o := _) rfl (fun Kq hKq => ?_) ?_
         · go_simp
           refine hKq.out _ _ ?_ (fun hHeld => ?_)
           · intro _; (try dsimp only); (first | exact K.out _ hbC.out | exact K.out _ (bdrew W2) | exact K.out _ (bgo hbC.out (balloc _ _)))
           clear hKq Kq
           try simp only [Act.put, List.getElem_toArray, List.getElem_cons_succ, List.getElem_cons_zero, List.setIfInBounds_toArray, List.set_cons_zero, List.set_cons_succ]
           refine wpAnyJ_ready (rs := [14]) (by kernel_rfl) (by simp) ?_
           refine AllReadyJ.cons (o := _) rfl (fun Kq hKq => ?_) ?_
           · go_simp
             go_at_call 70
             refine (join_lit (vs := [_, _, _, _, _]) [tCert, putB 2 n.length, n, p, SL] X X X.heap.size rfl (Below.refl _ _) ⟨hL, hP, hN, seesB_of sp.out (Nat.le_refl _) hbC.out, seesB_of ssl.out (Nat.le_refl _) hbC.out, trivial⟩ (by simp) hlen.out).mono ?_
             rintro e w9 ⟨v9, rfl, h9, hb9⟩
             have hsz := Nat.le_trans hbw.out.size hbC.out.size
             replace hbC := Lib.hid (bgo hbC.out hb9)
             go_wp2_with fail
             refine hKq.out _ _ ?_ (fun hHeld => ?_)
             · intro _; (try dsimp only); (first | exact K.out _ hbC.out | exact K.out _ (bdrew W2) | exact K.out _ (bgo hbC.out (balloc _ _)))
             clear hKq Kq
             try simp only [Act.put, List.getElem_toArray, List.getElem_cons_succ, List.getElem_cons_zero, List.setIfInBounds_toArray, List.set_cons_zero, List.set_cons_succ]
             refine wpAnyJ_ready (rs := [15]) (by kernel_rfl) (by simp) ?_
             refine AllReadyJ.cons (o := _) rfl (fun Kq hKq => ?_) ?_
             · go_simp
               refine hKq.out _ _ ?_ (fun hHeld => ?_)
               · intro hl; exact absurd hl (by decide)
               clear hKq Kq
               try simp only [Act.put, List.getElem_toArray, List.getElem_cons_succ, List.getElem_cons_zero, List.setIfInBounds_toArray, List.set_cons_zero, List.set_cons_succ]
               refine wpAnyJ_done (by kernel_rfl) ?_ _
               go_wp2_with fail
               go_ret
               rw [hfl.out] at h9
               exact ⟨v9, rfl, h9.mono hsz, bgo hbw.out hbC.out⟩
             exact AllReadyJ.nil
           exact AllReadyJ.nil
         exact AllReadyJ.nil
       exact AllReadyJ.nil
     exact AllReadyJ.nil
   refine AllReadyJ.cons (o := _) rfl (fun Kq hKq => ?_) ?_
   · go_simp
     go_at_call 74
     refine (hpt.out _).mono ?_
     rintro e X ⟨vP, rfl, hP, hal⟩
     obtain ⟨AP, cP, rfl, -, -⟩ := hP.sees.mk_
     replace hP := hP.sees
     replace hG := hG.below hal
     replace hbC := Lib.hid (bgo hbC.out hal)
     clear hal
     go_wp2_with fail
     refine hKq.out _ _ ?_ (fun hHeld => ?_)
     · intro _; (try dsimp only); (first | exact K.out _ hbC.out | exact K.out _ (bdrew W2) | exact K.out _ (bgo hbC.out (balloc _ _)))
     clear hKq Kq
     try simp only [Act.put, List.getElem_toArray, List.getElem_cons_succ, List.getElem_cons_zero, List.setIfInBounds_toArray, List.set_cons_zero, List.set_cons_succ]
     refine wpAnyJ_ready (rs := [1, 9]) (by kernel_rfl) (by simp) ?_
     refine AllReadyJ.cons (o := _) rfl (fun Kq hKq => ?_) ?_
     · skip
       have hcv : (convert 25 25 (.slice (some ⟨gL, 0, none⟩) 12 12)).run Tryz.prog X = .ok (.slice (some ⟨gL, 0, none⟩) 12 12) (markW X gL 12) := mark_run X gL 12 12 certL hG
       go_simp
       have hL := seesB_mark (tcert_sees X gL hG) gL 12
       replace hP := seesB_mark hP gL 12
       replace hbC := Lib.hid (mark_below hbC.out gL 12 hgL)
       clear hG hcv hgL
       generalize markW X gL 12 = X at *
       refine hKq.out _ _ ?_ (fun hHeld => ?_)
       · intro _; (try dsimp only); (first | exact K.out _ hbC.out | exact K.out _ (bdrew W2) | exact K.out _ (bgo hbC.out (balloc _ _)))
       clear hKq Kq
       try simp only [Act.put, List.getElem_toArray, List.getElem_cons_succ, List.getElem_cons_zero, List.setIfInBounds_toArray, List.set_cons_zero, List.set_cons_succ]
       refine wpAnyJ_ready (rs := [9]) (by kernel_rfl) (by simp) ?_
       refine AllReadyJ.cons (o := _) rfl (fun Kq hKq => ?_) ?_
       · skip
         obtain ⟨hcv, hN, hal⟩ := hst.out X
         go_simp
         replace hL := seesB_of hL (Nat.le_refl _) hal
         replace hP := seesB_of hP (Nat.le_refl _) hal
         replace hbC := Lib.hid (bgo hbC.out hal)
         clear hal hcv
         generalize X.heap.size = gN at hN ⊢
         generalize cp X = cN at hN ⊢
         generalize nx X = X at *
         refine hKq.out _ _ ?_ (fun hHeld => ?_)
         · intro _; (try dsimp only); (first | exact K.out _ hbC.out | exact K.out _ (bdrew W2) | exact K.out _ (bgo hbC.out (balloc _ _)))
         clear hKq Kq
         try simp only [Act.put, List.getElem_toArray, List.getElem_cons_succ, List.getElem_cons_zero, List.setIfInBounds_toArray, List.set_cons_zero, List.set_cons_succ]
         refine wpAnyJ_ready (rs := [13]) (by kernel_rfl) (by simp) ?_
         refine AllReadyJ.cons (o := _) rfl (fun Kq hKq => ?_) ?_
         · go_simp
           refine hKq.out _ _ ?_ (fun hHeld => ?_)
           · intro _; (try dsimp only); (first | exact K.out _ hbC.out | exact K.out _ (bdrew W2) | exact K.out _ (bgo hbC.out (balloc _ _)))
           clear hKq Kq
           try simp only [Act.put, List.getElem_toArray, List.getElem_cons_succ, List.getElem_cons_zero, List.setIfInBounds_toArray, List.set_cons_zero, List.set_cons_succ]
           refine wpAnyJ_ready (rs := [14]) (by kernel_rfl) (by simp) ?_
           refine AllReadyJ.cons (o := _) rfl (fun Kq hKq => ?_) ?_
           · go_simp
             go_at_call 70
             refine (join_lit (vs := [_, _, _, _, _]) [tCert, putB 2 n.length, n, p, SL] X X X.heap.size rfl (Below.refl _ _) ⟨hL, hP, hN, seesB_of sp.out (Nat.le_refl _) hbC.out, seesB_of ssl.out (Nat.le_refl _) hbC.out, trivial⟩ (by simp) hlen.out).mono ?_
             rintro e w9 ⟨v9, rfl, h9, hb9⟩
             have hsz := Nat.le_trans hbw.out.size hbC.out.size
             replace hbC := Lib.hid (bgo hbC.out hb9)
             go_wp2_with fail
             refine hKq.out _ _ ?_ (fun hHeld => ?_)
             · intro _; (try dsimp only); (first | exact K.out _ hbC.out | exact K.out _ (bdrew W2) | exact K.out _ (bgo hbC.out (balloc _ _)))
             clear hKq Kq
             try simp only [Act.put, List.getElem_toArray, List.getElem_cons_succ, List.getElem_cons_zero, List.setIfInBounds_toArray, List.set_cons_zero, List.set_cons_succ]
             refine wpAnyJ_ready (rs := [15]) (by kernel_rfl) (by simp) ?_
             refine AllReadyJ.cons (o := _) rfl (fun Kq hKq => ?_) ?_
             · go_simp
               refine hKq.out _ _ ?_ (fun hHeld => ?_)
               · intro hl; exact absurd hl (by decide)
               clear hKq Kq
               try simp only [Act.put, List.getElem_toArray, List.getElem_cons_succ, List.getElem_cons_zero, List.setIfInBounds_toArray, List.set_cons_zero, List.set_cons_succ]
               refine wpAnyJ_done (by kernel_rfl) ?_ _
               go_wp2_with fail
               go_ret
               rw [hfl.out] at h9
               exact ⟨v9, rfl, h9.mono hsz, bgo hbw.out hbC.out⟩
             exact AllReadyJ.nil
           exact AllReadyJ.nil
         exact AllReadyJ.nil
       exact AllReadyJ.nil
     refine AllReadyJ.cons (o := _) rfl (fun Kq hKq => ?_) ?_
     · skip
       obtain ⟨hcv, hN, hal⟩ := hst.out X
       go_simp
       replace hG := hG.below hal
       replace hP := seesB_of hP (Nat.le_refl _) hal
       replace hbC := Lib.hid (bgo hbC.out hal)
       clear hal hcv
       generalize X.heap.size = gN at hN ⊢
       generalize cp X = cN at hN ⊢
       generalize nx X = X at *
       refine hKq.out _ _ ?_ (fun hHeld => ?_)
       · intro _; (try dsimp only); (first | exact K.out _ hbC.out | exact K.out _ (bdrew W2) | exact K.out _ (bgo hbC.out (balloc _ _)))
       clear hKq Kq
       try simp only [Act.put, List.getElem_toArray, List.getElem_cons_succ, List.getElem_cons_zero, List.setIfInBounds_toArray, List.set_cons_zero, List.set_cons_succ]
       refine wpAnyJ_ready (rs := [1]) (by kernel_rfl) (by simp) ?_
       refine AllReadyJ.cons (o := _) rfl (fun Kq hKq => ?_) ?_
       · skip
         have hcv : (convert 25 25 (.slice (some ⟨gL, 0, none⟩) 12 12)).run Tryz.prog X = .ok (.slice (some ⟨gL, 0, none⟩) 12 12) (markW X gL 12) := mark_run X gL 12 12 certL hG
         go_simp
         have hL := seesB_mark (tcert_sees X gL hG) gL 12
         replace hP := seesB_mark hP gL 12
         replace hN := seesB_mark hN gL 12
         replace hbC := Lib.hid (mark_below hbC.out gL 12 hgL)
         clear hG hcv hgL
         generalize markW X gL 12 = X at *
         refine hKq.out _ _ ?_ (fun hHeld => ?_)
         · intro _; (try dsimp only); (first | exact K.out _ hbC.out | exact K.out _ (bdrew W2) | exact K.out _ (bgo hbC.out (balloc _ _)))
         clear hKq Kq
         try simp only [Act.put, List.getElem_toArray, List.getElem_cons_succ, List.getElem_cons_zero, List.setIfInBounds_toArray, List.set_cons_zero, List.set_cons_succ]
         refine wpAnyJ_ready (rs := [13]) (by kernel_rfl) (by simp) ?_
         refine AllReadyJ.cons (o := _) rfl (fun Kq hKq => ?_) ?_
         · go_simp
           refine hKq.out _ _ ?_ (fun hHeld => ?_)
           · intro _; (try dsimp only); (first | exact K.out _ hbC.out | exact K.out _ (bdrew W2) | exact K.out _ (bgo hbC.out (balloc _ _)))
           clear hKq Kq
           try simp only [Act.put, List.getElem_toArray, List.getElem_cons_succ, List.getElem_cons_zero, List.setIfInBounds_toArray, List.set_cons_zero, List.set_cons_succ]
           refine wpAnyJ_ready (rs := [14]) (by kernel_rfl) (by simp) ?_
           refine AllReadyJ.cons (o := _) rfl (fun Kq hKq => ?_) ?_
           · go_simp
             go_at_call 70
             refine (join_lit (vs := [_, _, _, _, _]) [tCert, putB 2 n.length, n, p, SL] X X X.heap.size rfl (Below.refl _ _) ⟨hL, hP, hN, seesB_of sp.out (Nat.le_refl _) hbC.out, seesB_of ssl.out (Nat.le_refl _) hbC.out, trivial⟩ (by simp) hlen.out).mono ?_
             rintro e w9 ⟨v9, rfl, h9, hb9⟩
             have hsz := Nat.le_trans hbw.out.size hbC.out.size
             replace hbC := Lib.hid (bgo hbC.out hb9)
             go_wp2_with fail
             refine hKq.out _ _ ?_ (fun hHeld => ?_)
             · intro _; (try dsimp only); (first | exact K.out _ hbC.out | exact K.out _ (bdrew W2) | exact K.out _ (bgo hbC.out (balloc _ _)))
             clear hKq Kq
             try simp only [Act.put, List.getElem_toArray, List.getElem_cons_succ, List.getElem_cons_zero, List.setIfInBounds_toArray, List.set_cons_zero, List.set_cons_succ]
             refine wpAnyJ_ready (rs := [15]) (by kernel_rfl) (by simp) ?_
             refine AllReadyJ.cons (o := _) rfl (fun Kq hKq => ?_) ?_
             · go_simp
               refine hKq.out _ _ ?_ (fun hHeld => ?_)
               · intro hl; exact absurd hl (by decide)
               clear hKq Kq
               try simp only [Act.put, List.getElem_toArray, List.getElem_cons_succ, List.getElem_cons_zero, List.setIfInBounds_toArray, List.set_cons_zero, List.set_cons_succ]
               refine wpAnyJ_done (by kernel_rfl) ?_ _
               go_wp2_with fail
               go_ret
               rw [hfl.out] at h9
               exact ⟨v9, rfl, h9.mono hsz, bgo hbw.out hbC.out⟩
             exact AllReadyJ.nil
           exact AllReadyJ.nil
         exact AllReadyJ.nil
       exact AllReadyJ.nil
     exact AllReadyJ.nil
   refine AllReadyJ.cons (o := _) rfl (fun Kq hKq => ?_) ?_
   · skip
     obtain ⟨hcv, hN, hal⟩ := hst.out X
     go_simp
     replace hG := hG.below hal
     replace hbC := Lib.hid (bgo hbC.out hal)
     clear hal hcv
     generalize X.heap.size = gN at hN ⊢
     generalize cp X = cN at hN ⊢
     generalize nx X = X at *
     refine hKq.out _ _ ?_ (fun hHeld => ?_)
     · intro _; (try dsimp only); (first | exact K.out _ hbC.out | exact K.out _ (bdrew W2) | exact K.out _ (bgo hbC.out (balloc _ _)))
     clear hKq Kq
     try simp only [Act.put, List.getElem_toArray, List.getElem_cons_succ, List.getElem_cons_zero, List.setIfInBounds_toArray, List.set_cons_zero, List.set_cons_succ]
     refine wpAnyJ_ready (rs := [1, 6]) (by kernel_rfl) (by simp) ?_
     refine AllReadyJ.cons (o := _) rfl (fun Kq hKq => ?_) ?_
     · skip
       have hcv : (convert 25 25 (.slice (some ⟨gL, 0, none⟩) 12 12)).run Tryz.prog X = .ok (.slice (some ⟨gL, 0, none⟩) 12 12) (markW X gL 12) := mark_run X gL 12 12 certL hG
       go_simp
       have hL := seesB_mark (tcert_sees X gL hG) gL 12
       replace hN := seesB_mark hN gL 12
       replace hbC := Lib.hid (mark_below hbC.out gL 12 hgL)
       clear hG hcv hgL
       generalize markW X gL 12 = X at *
       refine hKq.out _ _ ?_ (fun hHeld => ?_)
       · intro _; (try dsimp only); (first | exact K.out _ hbC.out | exact K.out _ (bdrew W2) | exact K.out _ (bgo hbC.out (balloc _ _)))
       clear hKq Kq
       try simp only [Act.put, List.getElem_toArray, List.getElem_cons_succ, List.getElem_cons_zero, List.setIfInBounds_toArray, List.set_cons_zero, List.set_cons_succ]
       refine wpAnyJ_ready (rs := [6]) (by kernel_rfl) (by simp) ?_
       refine AllReadyJ.cons (o := _) rfl (fun Kq hKq => ?_) ?_
       · go_simp
         go_at_call 74
         refine (hpt.out _).mono ?_
         rintro e X ⟨vP, rfl, hP, hal⟩
         obtain ⟨AP, cP, rfl, -, -⟩ := hP.sees.mk_
         replace hP := hP.sees
         replace hL := seesB_of hL (Nat.le_refl _) hal
         replace hN := seesB_of hN (Nat.le_refl _) hal
         replace hbC := Lib.hid (bgo hbC.out hal)
         clear hal
         go_wp2_with fail
         refine hKq.out _ _ ?_ (fun hHeld => ?_)
         · intro _; (try dsimp only); (first | exact K.out _ hbC.out | exact K.out _ (bdrew W2) | exact K.out _ (bgo hbC.out (balloc _ _)))
         clear hKq Kq
         try simp only [Act.put, List.getElem_toArray, List.getElem_cons_succ, List.getElem_cons_zero, List.setIfInBounds_toArray, List.set_cons_zero, List.set_cons_succ]
         refine wpAnyJ_ready (rs := [13]) (by kernel_rfl) (by simp) ?_
         refine AllReadyJ.cons (o := _) rfl (fun Kq hKq => ?_) ?_
         · go_simp
           refine hKq.out _ _ ?_ (fun hHeld => ?_)
           · intro _; (try dsimp only); (first | exact K.out _ hbC.out | exact K.out _ (bdrew W2) | exact K.out _ (bgo hbC.out (balloc _ _)))
           clear hKq Kq
           try simp only [Act.put, List.getElem_toArray, List.getElem_cons_succ, List.getElem_cons_zero, List.setIfInBounds_toArray, List.set_cons_zero, List.set_cons_succ]
           refine wpAnyJ_ready (rs := [14]) (by kernel_rfl) (by simp) ?_
           refine AllReadyJ.cons (o := _) rfl (fun Kq hKq => ?_) ?_
           · go_simp
             go_at_call 70
             refine (join_lit (vs := [_, _, _, _, _]) [tCert, putB 2 n.length, n, p, SL] X X X.heap.size rfl (Below.refl _ _) ⟨hL, hP, hN, seesB_of sp.out (Nat.le_refl _) hbC.out, seesB_of ssl.out (Nat.le_refl _) hbC.out, trivial⟩ (by simp) hlen.out).mono ?_
             rintro e w9 ⟨v9, rfl, h9, hb9⟩
             have hsz := Nat.le_trans hbw.out.size hbC.out.size
             replace hbC := Lib.hid (bgo hbC.out hb9)
             go_wp2_with fail
             refine hKq.out _ _ ?_ (fun hHeld => ?_)
             · intro _; (try dsimp only); (first | exact K.out _ hbC.out | exact K.out _ (bdrew W2) | exact K.out _ (bgo hbC.out (balloc _ _)))
             clear hKq Kq
             try simp only [Act.put, List.getElem_toArray, List.getElem_cons_succ, List.getElem_cons_zero, List.setIfInBounds_toArray, List.set_cons_zero, List.set_cons_succ]
             refine wpAnyJ_ready (rs := [15]) (by kernel_rfl) (by simp) ?_
             refine AllReadyJ.cons (o := _) rfl (fun Kq hKq => ?_) ?_
             · go_simp
               refine hKq.out _ _ ?_ (fun hHeld => ?_)
               · intro hl; exact absurd hl (by decide)
               clear hKq Kq
               try simp only [Act.put, List.getElem_toArray, List.getElem_cons_succ, List.getElem_cons_zero, List.setIfInBounds_toArray, List.set_cons_zero, List.set_cons_succ]
               refine wpAnyJ_done (by kernel_rfl) ?_ _
               go_wp2_with fail
               go_ret
               rw [hfl.out] at h9
               exact ⟨v9, rfl, h9.mono hsz, bgo hbw.out hbC.out⟩
             exact AllReadyJ.nil
           exact AllReadyJ.nil
         exact AllReadyJ.nil
       exact AllReadyJ.nil
     refine AllReadyJ.cons (o := _) rfl (fun Kq hKq => ?_) ?_
     · go_simp
       go_at_call 74
       refine (hpt.out _).mono ?_
       rintro e X ⟨vP, rfl, hP, hal⟩
       obtain ⟨AP, cP, rfl, -, -⟩ := hP.sees.mk_
       replace hP := hP.sees
       replace hG := hG.below hal
       replace hN := seesB_of hN (Nat.le_refl _) hal
       replace hbC := Lib.hid (bgo hbC.out hal)
       clear hal
       go_wp2_with fail
       refine hKq.out _ _ ?_ (fun hHeld => ?_)
       · intro _; (try dsimp only); (first | exact K.out _ hbC.out | exact K.out _ (bdrew W2) | exact K.out _ (bgo hbC.out (balloc _ _)))
       clear hKq Kq
       try simp only [Act.put, List.getElem_toArray, List.getElem_cons_succ, List.getElem_cons_zero, List.setIfInBounds_toArray, List.set_cons_zero, List.set_cons_succ]
       refine wpAnyJ_ready (rs := [1]) (by kernel_rfl) (by simp) ?_
       refine AllReadyJ.cons (o := _) rfl (fun Kq hKq => ?_) ?_
       · skip
         have hcv : (convert 25 25 (.slice (some ⟨gL, 0, none⟩) 12 12)).run Tryz.prog X = .ok (.slice (some ⟨gL, 0, none⟩) 12 12) (markW X gL 12) := mark_run X gL 12 12 certL hG
         go_simp
         have hL := seesB_mark (tcert_sees X gL hG) gL 12
         replace hP := seesB_mark hP gL 12
         replace hN := seesB_mark hN gL 12
         replace hbC := Lib.hid (mark_below hbC.out gL 12 hgL)
         clear hG hcv hgL
         generalize markW X gL 12 = X at *
         refine hKq.out _ _ ?_ (fun hHeld => ?_)
         · intro _; (try dsimp only); (first | exact K.out _ hbC.out | exact K.out _ (bdrew W2) | exact K.out _ (bgo hbC.out (balloc _ _)))
         clear hKq Kq
         try simp only [Act.put, List.getElem_toArray, List.getElem_cons_succ, List.getElem_cons_zero, List.setIfInBounds_toArray, List.set_cons_zero, List.set_cons_succ]
         refine wpAnyJ_ready (rs := [13]) (by kernel_rfl) (by simp) ?_
         refine AllReadyJ.cons (o := _) rfl (fun Kq hKq => ?_) ?_
         · go_simp
           refine hKq.out _ _ ?_ (fun hHeld => ?_)
           · intro _; (try dsimp only); (first | exact K.out _ hbC.out | exact K.out _ (bdrew W2) | exact K.out _ (bgo hbC.out (balloc _ _)))
           clear hKq Kq
           try simp only [Act.put, List.getElem_toArray, List.getElem_cons_succ, List.getElem_cons_zero, List.setIfInBounds_toArray, List.set_cons_zero, List.set_cons_succ]
           refine wpAnyJ_ready (rs := [14]) (by kernel_rfl) (by simp) ?_
           refine AllReadyJ.cons (o := _) rfl (fun Kq hKq => ?_) ?_
           · go_simp
             go_at_call 70
             refine (join_lit (vs := [_, _, _, _, _]) [tCert, putB 2 n.length, n, p, SL] X X X.heap.size rfl (Below.refl _ _) ⟨hL, hP, hN, seesB_of sp.out (Nat.le_refl _) hbC.out, seesB_of ssl.out (Nat.le_refl _) hbC.out, trivial⟩ (by simp) hlen.out).mono ?_
             rintro e w9 ⟨v9, rfl, h9, hb9⟩
             have hsz := Nat.le_trans hbw.out.size hbC.out.size
             replace hbC := Lib.hid (bgo hbC.out hb9)
             go_wp2_with fail
             refine hKq.out _ _ ?_ (fun hHeld => ?_)
             · intro _; (try dsimp only); (first | exact K.out _ hbC.out | exact K.out _ (bdrew W2) | exact K.out _ (bgo hbC.out (balloc _ _)))
             clear hKq Kq
             try simp only [Act.put, List.getElem_toArray, List.getElem_cons_succ, List.getElem_cons_zero, List.setIfInBounds_toArray, List.set_cons_zero, List.set_cons_succ]
             refine wpAnyJ_ready (rs := [15]) (by kernel_rfl) (by simp) ?_
             refine AllReadyJ.cons (o := _) rfl (fun Kq hKq => ?_) ?_
             · go_simp
               refine hKq.out _ _ ?_ (fun hHeld => ?_)
               · intro hl; exact absurd hl (by decide)
               clear hKq Kq
               try simp only [Act.put, List.getElem_toArray, List.getElem_cons_succ, List.getElem_cons_zero, List.setIfInBounds_toArray, List.set_cons_zero, List.set_cons_succ]
               refine wpAnyJ_done (by kernel_rfl) ?_ _
               go_wp2_with fail
               go_ret
               rw [hfl.out] at h9
               exact ⟨v9, rfl, h9.mono hsz, bgo hbw.out hbC.out⟩
             exact AllReadyJ.nil
           exact AllReadyJ.nil
         exact AllReadyJ.nil
       exact AllReadyJ.nil
     exact AllReadyJ.nil
   exact AllReadyJ.nil
 refine AllReadyJ.cons (o := _) rfl (fun Kq hKq => ?_) ?_
 · go_simp
   go_at_call 74
   refine (hpt.out _).mono ?_
   rintro e X ⟨vP, rfl, hP, hal⟩
   obtain ⟨AP, cP, rfl, -, -⟩ := hP.sees.mk_
   replace hP := hP.sees
   replace hbC := Lib.hid (bgo hbC.out hal)
   clear hal
   go_wp2_with fail
   refine hKq.out _ _ ?_ (fun hHeld => ?_)
   · intro _; (try dsimp only); (first | exact K.out _ hbC.out | exact K.out _ (bdrew W2) | exact K.out _ (bgo hbC.out (balloc _ _)))
   clear hKq Kq
   try simp only [Act.put, List.getElem_toArray, List.getElem_cons_succ, List.getElem_cons_zero, List.setIfInBounds_toArray, List.set_cons_zero, List.set_cons_succ]
   refine wpAnyJ_ready (rs := [0, 9]) (by kernel_rfl) (by simp) ?_
   refine AllReadyJ.cons (o := _) rfl (fun Kq hKq => ?_) ?_
   · go_simp
     have hal := balloc X (.cells #[.int .u8 115, .int .u8 101, .int .u8 99, .int .u8 116, .int .u8 105, .int .u8 109, .int .u8 101, .int .u8 32, .int .u8 99, .int .u8 101, .int .u8 114, .int .u8 116] 5)
     have hG := Box.new X 5 certL
     change Box (X.alloc (.cells #[.int .u8 115, .int .u8 101, .int .u8 99, .int .u8 116, .int .u8 105, .int .u8 109, .int .u8 101, .int .u8 32, .int .u8 99, .int .u8 101, .int .u8 114, .int .u8 116] 5)) _ _ _ at hG
     have hgL := hbC.out.size
     replace hP := seesB_of hP (Nat.le_refl _) hal
     replace hbC := Lib.hid (bgo hbC.out hal)
     clear hal
     generalize X.heap.size = gL at hG hgL ⊢
     generalize X.alloc (.cells #[.int .u8 115, .int .u8 101, .int .u8 99, .int .u8 116, .int .u8 105, .int .u8 109, .int .u8 101, .int .u8 32, .int .u8 99, .int .u8 101, .int .u8 114, .int .u8 116] 5) = X at *
     refine hKq.out _ _ ?_ (fun hHeld => ?_)
     · intro _; (try dsimp only); (first | exact K.out _ hbC.out | exact K.out _ (bdrew W2) | exact K.out _ (bgo hbC.out (balloc _ _)))
     clear hKq Kq
     try simp only [Act.put, List.getElem_toArray, List.getElem_cons_succ, List.getElem_cons_zero, List.setIfInBounds_toArray, List.set_cons_zero, List.set_cons_succ]
     refine wpAnyJ_ready (rs := [1, 9]) (by kernel_rfl) (by simp) ?_
     refine AllReadyJ.cons (o := _) rfl (fun Kq hKq => ?_) ?_
     · skip
       have hcv : (convert 25 25 (.slice (some ⟨gL, 0, none⟩) 12 12)).run Tryz.prog X = .ok (.slice (some ⟨gL, 0, none⟩) 12 12) (markW X gL 12) := mark_run X gL 12 12 certL hG
       go_simp
       have hL := seesB_mark (tcert_sees X gL hG) gL 12
       replace hP := seesB_mark hP gL 12
       replace hbC := Lib.hid (mark_below hbC.out gL 12 hgL)
       clear hG hcv hgL
       generalize markW X gL 12 = X at *
       refine hKq.out _ _ ?_ (fun hHeld => ?_)
       · intro _; (try dsimp only); (first | exact K.out _ hbC.out | exact K.out _ (bdrew W2) | exact K.out _ (bgo hbC.out (balloc _ _)))
       clear hKq Kq
       try simp only [Act.put, List.getElem_toArray, List.getElem_cons_succ, List.getElem_cons_zero, List.setIfInBounds_toArray, List.set_cons_zero, List.set_cons_succ]
       refine wpAnyJ_ready (rs := [9]) (by kernel_rfl) (by simp) ?_
       refine AllReadyJ.cons (o := _) rfl (fun Kq hKq => ?_) ?_
       · skip
         obtain ⟨hcv, hN, hal⟩ := hst.out X
         go_simp
         replace hL := seesB_of hL (Nat.le_refl _) hal
         replace hP := seesB_of hP (Nat.le_refl _) hal
         replace hbC := Lib.hid (bgo hbC.out hal)
         clear hal hcv
         generalize X.heap.size = gN at hN ⊢
         generalize cp X = cN at hN ⊢
         generalize nx X = X at *
         refine hKq.out _ _ ?_ (fun hHeld => ?_)
         · intro _; (try dsimp only); (first | exact K.out _ hbC.out | exact K.out _ (bdrew W2) | exact K.out _ (bgo hbC.out (balloc _ _)))
         clear hKq Kq
         try simp only [Act.put, List.getElem_toArray, List.getElem_cons_succ, List.getElem_cons_zero, List.setIfInBounds_toArray, List.set_cons_zero, List.set_cons_succ]
         refine wpAnyJ_ready (rs := [13]) (by kernel_rfl) (by simp) ?_
         refine AllReadyJ.cons (o := _) rfl (fun Kq hKq => ?_) ?_
         · go_simp
           refine hKq.out _ _ ?_ (fun hHeld => ?_)
           · intro _; (try dsimp only); (first | exact K.out _ hbC.out | exact K.out _ (bdrew W2) | exact K.out _ (bgo hbC.out (balloc _ _)))
           clear hKq Kq
           try simp only [Act.put, List.getElem_toArray, List.getElem_cons_succ, List.getElem_cons_zero, List.setIfInBounds_toArray, List.set_cons_zero, List.set_cons_succ]
           refine wpAnyJ_ready (rs := [14]) (by kernel_rfl) (by simp) ?_
           refine AllReadyJ.cons (o := _) rfl (fun Kq hKq => ?_) ?_
           · go_simp
             go_at_call 70
             refine (join_lit (vs := [_, _, _, _, _]) [tCert, putB 2 n.length, n, p, SL] X X X.heap.size rfl (Below.refl _ _) ⟨hL, hP, hN, seesB_of sp.out (Nat.le_refl _) hbC.out, seesB_of ssl.out (Nat.le_refl _) hbC.out, trivial⟩ (by simp) hlen.out).mono ?_
             rintro e w9 ⟨v9, rfl, h9, hb9⟩
             have hsz := Nat.le_trans hbw.out.size hbC.out.size
             replace hbC := Lib.hid (bgo hbC.out hb9)
             go_wp2_with fail
             refine hKq.out _ _ ?_ (fun hHeld => ?_)
             · intro _; (try dsimp only); (first | exact K.out _ hbC.out | exact K.out _ (bdrew W2) | exact K.out _ (bgo hbC.out (balloc _ _)))
             clear hKq Kq
             try simp only [Act.put, List.getElem_toArray, List.getElem_cons_succ, List.getElem_cons_zero, List.setIfInBounds_toArray, List.set_cons_zero, List.set_cons_succ]
             refine wpAnyJ_ready (rs := [15]) (by kernel_rfl) (by simp) ?_
             refine AllReadyJ.cons (o := _) rfl (fun Kq hKq => ?_) ?_
             · go_simp
               refine hKq.out _ _ ?_ (fun hHeld => ?_)
               · intro hl; exact absurd hl (by decide)
               clear hKq Kq
               try simp only [Act.put, List.getElem_toArray, List.getElem_cons_succ, List.getElem_cons_zero, List.setIfInBounds_toArray, List.set_cons_zero, List.set_cons_succ]
               refine wpAnyJ_done (by kernel_rfl) ?_ _
               go_wp2_with fail
               go_ret
               rw [hfl.out] at h9
               exact ⟨v9, rfl, h9.mono hsz, bgo hbw.out hbC.out⟩
             exact AllReadyJ.nil
           exact AllReadyJ.nil
         exact AllReadyJ.nil
       exact AllReadyJ.nil
     refine AllReadyJ.cons (o := _) rfl (fun Kq hKq => ?_) ?_
     · skip
       obtain ⟨hcv, hN, hal⟩ := hst.out X
       go_simp
       replace hG := hG.below hal
       replace hP := seesB_of hP (Nat.le_refl _) hal
       replace hbC := Lib.hid (bgo hbC.out hal)
       clear hal hcv
       generalize X.heap.size = gN at hN ⊢
       generalize cp X = cN at hN ⊢
       generalize nx X = X at *
       refine hKq.out _ _ ?_ (fun hHeld => ?_)
       · intro _; (try dsimp only); (first | exact K.out _ hbC.out | exact K.out _ (bdrew W2) | exact K.out _ (bgo hbC.out (balloc _ _)))
       clear hKq Kq
       try simp only [Act.put, List.getElem_toArray, List.getElem_cons_succ, List.getElem_cons_zero, List.setIfInBounds_toArray, List.set_cons_zero, List.set_cons_succ]
       refine wpAnyJ_ready (rs := [1]) (by kernel_rfl) (by simp) ?_
       refine AllReadyJ.cons (o := _) rfl (fun Kq hKq => ?_) ?_
       · skip
         have hcv : (convert 25 25 (.slice (some ⟨gL, 0, none⟩) 12 12)).run Tryz.prog X = .ok (.slice (some ⟨gL, 0, none⟩) 12 12) (markW X gL 12) := mark_run X gL 12 12 certL hG
         go_simp
         have hL := seesB_mark (tcert_sees X gL hG) gL 12
         replace hP := seesB_mark hP gL 12
         replace hN := seesB_mark hN gL 12
         replace hbC := Lib.hid (mark_below hbC.out gL 12 hgL)
         clear hG hcv hgL
         generalize markW X gL 12 = X at *
         refine hKq.out _ _ ?_ (fun hHeld => ?_)
         · intro _; (try dsimp only); (first | exact K.out _ hbC.out | exact K.out _ (bdrew W2) | exact K.out _ (bgo hbC.out (balloc _ _)))
         clear hKq Kq
         try simp only [Act.put, List.getElem_toArray, List.getElem_cons_succ, List.getElem_cons_zero, List.setIfInBounds_toArray, List.set_cons_zero, List.set_cons_succ]
         refine wpAnyJ_ready (rs := [13]) (by kernel_rfl) (by simp) ?_
         refine AllReadyJ.cons (o := _) rfl (fun Kq hKq => ?_) ?_
         · go_simp
           refine hKq.out _ _ ?_ (fun hHeld => ?_)
           · intro _; (try dsimp only); (first | exact K.out _ hbC.out | exact K.out _ (bdrew W2) | exact K.out _ (bgo hbC.out (balloc _ _)))
           clear hKq Kq
           try simp only [Act.put, List.getElem_toArray, List.getElem_cons_succ, List.getElem_cons_zero, List.setIfInBounds_toArray, List.set_cons_zero, List.set_cons_succ]
           refine wpAnyJ_ready (rs := [14]) (by kernel_rfl) (by simp) ?_
           refine AllReadyJ.cons (o := _) rfl (fun Kq hKq => ?_) ?_
           · go_simp
             go_at_call 70
             refine (join_lit (vs := [_, _, _, _, _]) [tCert, putB 2 n.length, n, p, SL] X X X.heap.size rfl (Below.refl _ _) ⟨hL, hP, hN, seesB_of sp.out (Nat.le_refl _) hbC.out, seesB_of ssl.out (Nat.le_refl _) hbC.out, trivial⟩ (by simp) hlen.out).mono ?_
             rintro e w9 ⟨v9, rfl, h9, hb9⟩
             have hsz := Nat.le_trans hbw.out.size hbC.out.size
             replace hbC := Lib.hid (bgo hbC.out hb9)
             go_wp2_with fail
             refine hKq.out _ _ ?_ (fun hHeld => ?_)
             · intro _; (try dsimp only); (first | exact K.out _ hbC.out | exact K.out _ (bdrew W2) | exact K.out _ (bgo hbC.out (balloc _ _)))
             clear hKq Kq
             try simp only [Act.put, List.getElem_toArray, List.getElem_cons_succ, List.getElem_cons_zero, List.setIfInBounds_toArray, List.set_cons_zero, List.set_cons_succ]
             refine wpAnyJ_ready (rs := [15]) (by kernel_rfl) (by simp) ?_
             refine AllReadyJ.cons (o := _) rfl (fun Kq hKq => ?_) ?_
             · go_simp
               refine hKq.out _ _ ?_ (fun hHeld => ?_)
               · intro hl; exact absurd hl (by decide)
               clear hKq Kq
               try simp only [Act.put, List.getElem_toArray, List.getElem_cons_succ, List.getElem_cons_zero, List.setIfInBounds_toArray, List.set_cons_zero, List.set_cons_succ]
               refine wpAnyJ_done (by kernel_rfl) ?_ _
               go_wp2_with fail
               go_ret
               rw [hfl.out] at h9
               exact ⟨v9, rfl, h9.mono hsz, bgo hbw.out hbC.out⟩
             exact AllReadyJ.nil
           exact AllReadyJ.nil
         exact AllReadyJ.nil
       exact AllReadyJ.nil
     exact AllReadyJ.nil
   refine AllReadyJ.cons (o := _) rfl (fun Kq hKq => ?_) ?_
   · skip
     obtain ⟨hcv, hN, hal⟩ := hst.out X
     go_simp
     replace hP := seesB_of hP (Nat.le_refl _) hal
     replace hbC := Lib.hid (bgo hbC.out hal)
     clear hal hcv
     generalize X.heap.size = gN at hN ⊢
     generalize cp X = cN at hN ⊢
     generalize nx X = X at *
     refine hKq.out _ _ ?_ (fun hHeld => ?_)
     · intro _; (try dsimp only); (first | exact K.out _ hbC.out | exact K.out _ (bdrew W2) | exact K.out _ (bgo hbC.out (balloc _ _)))
     clear hKq Kq
     try simp only [Act.put, List.getElem_toArray, List.getElem_cons_succ, List.getElem_cons_zero, List.setIfInBounds_toArray, List.set_cons_zero, List.set_cons_succ]
     refine wpAnyJ_ready (rs := [0]) (by kernel_rfl) (by simp) ?_
     refine AllReadyJ.cons (o := _) rfl (fun Kq hKq => ?_) ?_
     · go_simp
       have hal := balloc X (.cells #[.int .u8 115, .int .u8 101, .int .u8 99, .int .u8 116, .int .u8 105, .int .u8 109, .int .u8 101, .int .u8 32, .int .u8 99, .int .u8 101, .int .u8 114, .int .u8 116] 5)
       have hG := Box.new X 5 certL
       change Box (X.alloc (.cells #[.int .u8 115, .int .u8 101, .int .u8 99, .int .u8 116, .int .u8 105, .int .u8 109, .int .u8 101, .int .u8 32, .int .u8 99, .int .u8 101, .int .u8 114, .int .u8 116] 5)) _ _ _ at hG
       have hgL := hbC.out.size
       replace hP := seesB_of hP (Nat.le_refl _) hal
       replace hN := seesB_of hN (Nat.le_refl _) hal
       replace hbC := Lib.hid (bgo hbC.out hal)
       clear hal
       generalize X.heap.size = gL at hG hgL ⊢
       generalize X.alloc (.cells #[.int .u8 115, .int .u8 101, .int .u8 99, .int .u8 116, .int .u8 105, .int .u8 109, .int .u8 101, .int .u8 32, .int .u8 99, .int .u8 101, .int .u8 114, .int .u8 116] 5) = X at *
       refine hKq.out _ _ ?_ (fun hHeld => ?_)
       · intro _; (try dsimp only); (first | exact K.out _ hbC.out | exact K.out _ (bdrew W2) | exact K.out _ (bgo hbC.out (balloc _ _)))
       clear hKq Kq
       try simp only [Act.put, List.getElem_toArray, List.getElem_cons_succ, List.getElem_cons_zero, List.setIfInBounds_toArray, List.set_cons_zero, List.set_cons_succ]
       refine wpAnyJ_ready (rs := [1]) (by kernel_rfl) (by simp) ?_
       refine AllReadyJ.cons (o := _) rfl (fun Kq hKq => ?_) ?_
       · skip
         have hcv : (convert 25 25 (.slice (some ⟨gL, 0, none⟩) 12 12)).run Tryz.prog X = .ok (.slice (some ⟨gL, 0, none⟩) 12 12) (markW X gL 12) := mark_run X gL 12 12 certL hG
         go_simp
         have hL := seesB_mark (tcert_sees X gL hG) gL 12
         replace hP := seesB_mark hP gL 12
         replace hN := seesB_mark hN gL 12
         replace hbC := Lib.hid (mark_below hbC.out gL 12 hgL)
         clear hG hcv hgL
         generalize markW X gL 12 = X at *
         refine hKq.out _ _ ?_ (fun hHeld => ?_)
         · intro _; (try dsimp only); (first | exact K.out _ hbC.out | exact K.out _ (bdrew W2) | exact K.out _ (bgo hbC.out (balloc _ _)))
         clear hKq Kq
         try simp only [Act.put, List.getElem_toArray, List.getElem_cons_succ, List.getElem_cons_zero, List.setIfInBounds_toArray, List.set_cons_zero, List.set_cons_succ]
         refine wpAnyJ_ready (rs := [13]) (by kernel_rfl) (by simp) ?_
         refine AllReadyJ.cons (o := _) rfl (fun Kq hKq => ?_) ?_
         · go_simp
           refine hKq.out _ _ ?_ (fun hHeld => ?_)
           · intro _; (try dsimp only); (first | exact K.out _ hbC.out | exact K.out _ (bdrew W2) | exact K.out _ (bgo hbC.out (balloc _ _)))
           clear hKq Kq
           try simp only [Act.put, List.getElem_toArray, List.getElem_cons_succ, List.getElem_cons_zero, List.setIfInBounds_toArray, List.set_cons_zero, List.set_cons_succ]
           refine wpAnyJ_ready (rs := [14]) (by kernel_rfl) (by simp) ?_
           refine AllReadyJ.cons (o := _) rfl (fun Kq hKq => ?_) ?_
           · go_simp
             go_at_call 70
             refine (join_lit (vs := [_, _, _, _, _]) [tCert, putB 2 n.length, n, p, SL] X X X.heap.size rfl (Below.refl _ _) ⟨hL, hP, hN, seesB_of sp.out (Nat.le_refl _) hbC.out, seesB_of ssl.out (Nat.le_refl _) hbC.out, trivial⟩ (by simp) hlen.out).mono ?_
             rintro e w9 ⟨v9, rfl, h9, hb9⟩
             have hsz := Nat.le_trans hbw.out.size hbC.out.size
             replace hbC := Lib.hid (bgo hbC.out hb9)
             go_wp2_with fail
             refine hKq.out _ _ ?_ (fun hHeld => ?_)
             · intro _; (try dsimp only); (first | exact K.out _ hbC.out | exact K.out _ (bdrew W2) | exact K.out _ (bgo hbC.out (balloc _ _)))
             clear hKq Kq
             try simp only [Act.put, List.getElem_toArray, List.getElem_cons_succ, List.getElem_cons_zero, List.setIfInBounds_toArray, List.set_cons_zero, List.set_cons_succ]
             refine wpAnyJ_ready (rs := [15]) (by kernel_rfl) (by simp) ?_
             refine AllReadyJ.cons (o := _) rfl (fun Kq hKq => ?_) ?_
             · go_simp
               refine hKq.out _ _ ?_ (fun hHeld => ?_)
               · intro hl; exact absurd hl (by decide)
               clear hKq Kq
               try simp only [Act.put, List.getElem_toArray, List.getElem_cons_succ, List.getElem_cons_zero, List.setIfInBounds_toArray, List.set_cons_zero, List.set_cons_succ]
               refine wpAnyJ_done (by kernel_rfl) ?_ _
               go_wp2_with fail
               go_ret
               rw [hfl.out] at h9
               exact ⟨v9, rfl, h9.mono hsz, bgo hbw.out hbC.out⟩
             exact AllReadyJ.nil
           exact AllReadyJ.nil
         exact AllReadyJ.nil
       exact AllReadyJ.nil
     exact AllReadyJ.nil
   exact AllReadyJ.nil
 refine AllReadyJ.cons (o := _) rfl (fun Kq hKq => ?_) ?_
 · skip
   obtain ⟨hcv, hN, hal⟩ := hst.out X
   go_simp
   replace hbC := Lib.hid (bgo hbC.out hal)
   clear hal hcv
   generalize X.heap.size = gN at hN ⊢
   generalize cp X = cN at hN ⊢
   generalize nx X = X at *
   refine hKq.out _ _ ?_ (fun hHeld => ?_)
   · intro _; (try dsimp only); (first | exact K.out _ hbC.out | exact K.out _ (bdrew W2) | exact K.out _ (bgo hbC.out (balloc _ _)))
   clear hKq Kq
   try simp only [Act.put, List.getElem_toArray, List.getElem_cons_succ, List.getElem_cons_zero, List.setIfInBounds_toArray, List.set_cons_zero, List.set_cons_succ]
   refine wpAnyJ_ready (rs := [0, 6]) (by kernel_rfl) (by simp) ?_
   refine AllReadyJ.cons (o := _) rfl (fun Kq hKq => ?_) ?_
   · go_simp
     have hal := balloc X (.cells #[.int .u8 115, .int .u8 101, .int .u8 99, .int .u8 116, .int .u8 105, .int .u8 109, .int .u8 101, .int .u8 32, .int .u8 99, .int .u8 101, .int .u8 114, .int .u8 116] 5)
     have hG := Box.new X 5 certL
     change Box (X.alloc (.cells #[.int .u8 115, .int .u8 101, .int .u8 99, .int .u8 116, .int .u8 105, .int .u8 109, .int .u8 101, .int .u8 32, .int .u8 99, .int .u8 101, .int .u8 114, .int .u8 116] 5)) _ _ _ at hG
     have hgL := hbC.out.size
     replace hN := seesB_of hN (Nat.le_refl _) hal
     replace hbC := Lib.hid (bgo hbC.out hal)
     clear hal
     generalize X.heap.size = gL at hG hgL ⊢
     generalize X.alloc (.cells #[.int .u8 115, .int .u8 101, .int .u8 99, .int .u8 116, .int .u8 105, .int .u8 109, .int .u8 101, .int .u8 32, .int .u8 99, .int .u8 101, .int .u8 114, .int .u8 116] 5) = X at *
     refine hKq.out _ _ ?_ (fun hHeld => ?_)
     · intro _; (try dsimp only); (first | exact K.out _ hbC.out | exact K.out _ (bdrew W2) | exact K.out _ (bgo hbC.out (balloc _ _)))
     clear hKq Kq
     try simp only [Act.put, List.getElem_toArray, List.getElem_cons_succ, List.getElem_cons_zero, List.setIfInBounds_toArray, List.set_cons_zero, List.set_cons_succ]
     refine wpAnyJ_ready (rs := [1, 6]) (by kernel_rfl) (by simp) ?_
     refine AllReadyJ.cons (o := _) rfl (fun Kq hKq => ?_) ?_
     · skip
       have hcv : (convert 25 25 (.slice (some ⟨gL, 0, none⟩) 12 12)).run Tryz.prog X = .ok (.slice (some ⟨gL, 0, none⟩) 12 12) (markW X gL 12) := mark_run X gL 12 12 certL hG
       go_simp
       have hL := seesB_mark (tcert_sees X gL hG) gL 12
       replace hN := seesB_mark hN gL 12
       replace hbC := Lib.hid (mark_below hbC.out gL 12 hgL)
       clear hG hcv hgL
       generalize markW X gL 12 = X at *
       refine hKq.out _ _ ?_ (fun hHeld => ?_)
       · intro _; (try dsimp only); (first | exact K.out _ hbC.out | exact K.out _ (bdrew W2) | exact K.out _ (bgo hbC.out (balloc _ _)))
       clear hKq Kq
       try simp only [Act.put, List.getElem_toArray, List.getElem_cons_succ, List.getElem_cons_zero, List.setIfInBounds_toArray, List.set_cons_zero, List.set_cons_succ]
       refine wpAnyJ_ready (rs := [6]) (by kernel_rfl) (by simp) ?_
       refine AllReadyJ.cons (o := _) rfl (fun Kq hKq => ?_) ?_
       · go_simp
         go_at_call 74
         refine (hpt.out _).mono ?_
         rintro e X ⟨vP, rfl, hP, hal⟩
         obtain ⟨AP, cP, rfl, -, -⟩ := hP.sees.mk_
         replace hP := hP.sees
         replace hL := seesB_of hL (Nat.le_refl _) hal
         replace hN := seesB_of hN (Nat.le_refl _) hal
         replace hbC := Lib.hid (bgo hbC.out hal)
         clear hal
         go_wp2_with fail
         refine hKq.out _ _ ?_ (fun hHeld => ?_)
         · intro _; (try dsimp only); (first | exact K.out _ hbC.out | exact K.out _ (bdrew W2) | exact K.out _ (bgo hbC.out (balloc _ _)))
         clear hKq Kq
         try simp only [Act.put, List.getElem_toArray, List.getElem_cons_succ, List.getElem_cons_zero, List.setIfInBounds_toArray, List.set_cons_zero, List.set_cons_succ]
         refine wpAnyJ_ready (rs := [13]) (by kernel_rfl) (by simp) ?_
         refine AllReadyJ.cons (o := _) rfl (fun Kq hKq => ?_) ?_
         · go_simp
           refine hKq.out _ _ ?_ (fun hHeld => ?_)
           · intro _; (try dsimp only); (first | exact K.out _ hbC.out | exact K.out _ (bdrew W2) | exact K.out _ (bgo hbC.out (balloc _ _)))
           clear hKq Kq
           try simp only [Act.put, List.getElem_toArray, List.getElem_cons_succ, List.getElem_cons_zero, List.setIfInBounds_toArray, List.set_cons_zero, List.set_cons_succ]
           refine wpAnyJ_ready (rs := [14]) (by kernel_rfl) (by simp) ?_
           refine AllReadyJ.cons (o := _) rfl (fun Kq hKq => ?_) ?_
           · go_simp
             go_at_call 70
             refine (join_lit (vs := [_, _, _, _, _]) [tCert, putB 2 n.length, n, p, SL] X X X.heap.size rfl (Below.refl _ _) ⟨hL, hP, hN, seesB_of sp.out (Nat.le_refl _) hbC.out, seesB_of ssl.out (Nat.le_refl _) hbC.out, trivial⟩ (by simp) hlen.out).mono ?_
             rintro e w9 ⟨v9, rfl, h9, hb9⟩
             have hsz := Nat.le_trans hbw.out.size hbC.out.size
             replace hbC := Lib.hid (bgo hbC.out hb9)
             go_wp2_with fail
             refine hKq.out _ _ ?_ (fun hHeld => ?_)
             · intro _; (try dsimp only); (first | exact K.out _ hbC.out | exact K.out _ (bdrew W2) | exact K.out _ (bgo hbC.out (balloc _ _)))
             clear hKq Kq
             try simp only [Act.put, List.getElem_toArray, List.getElem_cons_succ, List.getElem_cons_zero, List.setIfInBounds_toArray, List.set_cons_zero, List.set_cons_succ]
             refine wpAnyJ_ready (rs := [15]) (by kernel_rfl) (by simp) ?_
             refine AllReadyJ.cons (o := _) rfl (fun Kq hKq => ?_) ?_
             · go_simp
               refine hKq.out _ _ ?_ (fun hHeld => ?_)
               · intro hl; exact absurd hl (by decide)
               clear hKq Kq
               try simp only [Act.put, List.getElem_toArray, List.getElem_cons_succ, List.getElem_cons_zero, List.setIfInBounds_toArray, List.set_cons_zero, List.set_cons_succ]
               refine wpAnyJ_done (by kernel_rfl) ?_ _
               go_wp2_with fail
               go_ret
               rw [hfl.out] at h9
               exact ⟨v9, rfl, h9.mono hsz, bgo hbw.out hbC.out⟩
             exact AllReadyJ.nil
           exact AllReadyJ.nil
         exact AllReadyJ.nil
       exact AllReadyJ.nil
     refine AllReadyJ.cons (o := _) rfl (fun Kq hKq => ?_) ?_
     · go_simp
       go_at_call 74
       refine (hpt.out _).mono ?_
       rintro e X ⟨vP, rfl, hP, hal⟩
       obtain ⟨AP, cP, rfl, -, -⟩ := hP.sees.mk_
       replace hP := hP.sees
       replace hG := hG.below hal
       replace hN := seesB_of hN (Nat.le_refl _) hal
       replace hbC := Lib.hid (bgo hbC.out hal)
       clear hal
       go_wp2_with fail
       refine hKq.out _ _ ?_ (fun hHeld => ?_)
       · intro _; (try dsimp only); (first | exact K.out _ hbC.out | exact K.out _ (bdrew W2) | exact K.out _ (bgo hbC.out (balloc _ _)))
       clear hKq Kq
       try simp only [Act.put, List.getElem_toArray, List.getElem_cons_succ, List.getElem_cons_zero, List.setIfInBounds_toArray, List.set_cons_zero, List.set_cons_succ]
       refine wpAnyJ_ready (rs := [1]) (by kernel_rfl) (by simp) ?_
       refine AllReadyJ.cons (o := _) rfl (fun Kq hKq => ?_) ?_
       · skip
         have hcv : (convert 25 25 (.slice (some ⟨gL, 0, none⟩) 12 12)).run Tryz.prog X = .ok (.slice (some ⟨gL, 0, none⟩) 12 12) (markW X gL 12) := mark_run X gL 12 12 certL hG
         go_simp
         have hL := seesB_mark (tcert_sees X gL hG) gL 12
         replace hP := seesB_mark hP gL 12
         replace hN := seesB_mark hN gL 12
         replace hbC := Lib.hid (mark_below hbC.out gL 12 hgL)
         clear hG hcv hgL
         generalize markW X gL 12 = X at *
         refine hKq.out _ _ ?_ (fun hHeld => ?_)
         · intro _; (try dsimp only); (first | exact K.out _ hbC.out | exact K.out _ (bdrew W2) | exact K.out _ (bgo hbC.out (balloc _ _)))
         clear hKq Kq
         try simp only [Act.put, List.getElem_toArray, List.getElem_cons_succ, List.getElem_cons_zero, List.setIfInBounds_toArray, List.set_cons_zero, List.set_cons_succ]
         refine wpAnyJ_ready (rs := [13]) (by kernel_rfl) (by simp) ?_
         refine AllReadyJ.cons (o := _) rfl (fun Kq hKq => ?_) ?_
         · go_simp
           refine hKq.out _ _ ?_ (fun hHeld => ?_)
           · intro _; (try dsimp only); (first | exact K.out _ hbC.out | exact K.out _ (bdrew W2) | exact K.out _ (bgo hbC.out (balloc _ _)))
           clear hKq Kq
           try simp only [Act.put, List.getElem_toArray, List.getElem_cons_succ, List.getElem_cons_zero, List.setIfInBounds_toArray, List.set_cons_zero, List.set_cons_succ]
           refine wpAnyJ_ready (rs := [14]) (by kernel_rfl) (by simp) ?_
           refine AllReadyJ.cons (o := _) rfl (fun Kq hKq => ?_) ?_
           · go_simp
             go_at_call 70
             refine (join_lit (vs := [_, _, _, _, _]) [tCert, putB 2 n.length, n, p, SL] X X X.heap.size rfl (Below.refl _ _) ⟨hL, hP, hN, seesB_of sp.out (Nat.le_refl _) hbC.out, seesB_of ssl.out (Nat.le_refl _) hbC.out, trivial⟩ (by simp) hlen.out).mono ?_
             rintro e w9 ⟨v9, rfl, h9, hb9⟩
             have hsz := Nat.le_trans hbw.out.size hbC.out.size
             replace hbC := Lib.hid (bgo hbC.out hb9)
             go_wp2_with fail
             refine hKq.out _ _ ?_ (fun hHeld => ?_)
             · intro _; (try dsimp only); (first | exact K.out _ hbC.out | exact K.out _ (bdrew W2) | exact K.out _ (bgo hbC.out (balloc _ _)))
             clear hKq Kq
             try simp only [Act.put, List.getElem_toArray, List.getElem_cons_succ, List.getElem_cons_zero, List.setIfInBounds_toArray, List.set_cons_zero, List.set_cons_succ]
             refine wpAnyJ_ready (rs := [15]) (by kernel_rfl) (by simp) ?_
             refine AllReadyJ.cons (o := _) rfl (fun Kq hKq => ?_) ?_
             · go_simp
               refine hKq.out _ _ ?_ (fun hHeld => ?_)
               · intro hl; exact absurd hl (by decide)
               clear hKq Kq
               try simp only [Act.put, List.getElem_toArray, List.getElem_cons_succ, List.getElem_cons_zero, List.setIfInBounds_toArray, List.set_cons_zero, List.set_cons_succ]
               refine wpAnyJ_done (by kernel_rfl) ?_ _
               go_wp2_with fail
               go_ret
               rw [hfl.out] at h9
               exact ⟨v9, rfl, h9.mono hsz, bgo hbw.out hbC.out⟩
             exact AllReadyJ.nil
           exact AllReadyJ.nil
         exact AllReadyJ.nil
       exact AllReadyJ.nil
     exact AllReadyJ.nil
   refine AllReadyJ.cons (o := _) rfl (fun Kq hKq => ?_) ?_
   · go_simp
     go_at_call 74
     refine (hpt.out _).mono ?_
     rintro e X ⟨vP, rfl, hP, hal⟩
     obtain ⟨AP, cP, rfl, -, -⟩ := hP.sees.mk_
     replace hP := hP.sees
     replace hN := seesB_of hN (Nat.le_refl _) hal
     replace hbC := Lib.hid (bgo hbC.out hal)
     clear hal
     go_wp2_with fail
     refine hKq.out _ _ ?_ (fun hHeld => ?_)
     · intro _; (try dsimp only); (first | exact K.out _ hbC.out | exact K.out _ (bdrew W2) | exact K.out _ (bgo hbC.out (balloc _ _)))
     clear hKq Kq
     try simp only [Act.put, List.getElem_toArray, List.getElem_cons_succ, List.getElem_cons_zero, List.setIfInBounds_toArray, List.set_cons_zero, List.set_cons_succ]
     refine wpAnyJ_ready (rs := [0]) (by kernel_rfl) (by simp) ?_
     refine AllReadyJ.cons (o := _) rfl (fun Kq hKq => ?_) ?_
     · go_simp
       have hal := balloc X (.cells #[.int .u8 115, .int .u8 101, .int .u8 99, .int .u8 116, .int .u8 105, .int .u8 109, .int .u8 101, .int .u8 32, .int .u8 99, .int .u8 101, .int .u8 114, .int .u8 116] 5)
       have hG := Box.new X 5 certL
       change Box (X.alloc (.cells #[.int .u8 115, .int .u8 101, .int .u8 99, .int .u8 116, .int .u8 105, .int .u8 109, .int .u8 101, .int .u8 32, .int .u8 99, .int .u8 101, .int .u8 114, .int .u8 116] 5)) _ _ _ at hG
       have hgL := hbC.out.size
       replace hP := seesB_of hP (Nat.le_refl _) hal
       replace hN := seesB_of hN (Nat.le_refl _) hal
       replace hbC := Lib.hid (bgo hbC.out hal)
       clear hal
       generalize X.heap.size = gL at hG hgL ⊢
       generalize X.alloc (.cells #[.int .u8 115, .int .u8 101, .int .u8 99, .int .u8 116, .int .u8 105, .int .u8 109, .int .u8 101, .int .u8 32, .int .u8 99, .int .u8 101, .int .u8 114, .int .u8 116] 5) = X at *
       refine hKq.out _ _ ?_ (fun hHeld => ?_)
       · intro _; (try dsimp only); (first | exact K.out _ hbC.out | exact K.out _ (bdrew W2) | exact K.out _ (bgo hbC.out (balloc _ _)))
       clear hKq Kq
       try simp only [Act.put, List.getElem_toArray, List.getElem_cons_succ, List.getElem_cons_zero, List.setIfInBounds_toArray, List.set_cons_zero, List.set_cons_succ]
       refine wpAnyJ_ready (rs := [1]) (by kernel_rfl) (by simp) ?_
       refine AllReadyJ.cons (o := _) rfl (fun Kq hKq => ?_) ?_
       · skip
         have hcv : (convert 25 25 (.slice (some ⟨gL, 0, none⟩) 12 12)).run Tryz.prog X = .ok (.slice (some ⟨gL, 0, none⟩) 12 12) (markW X gL 12) := mark_run X gL 12 12 certL hG
         go_simp
         have hL := seesB_mark (tcert_sees X gL hG) gL 12
         replace hP := seesB_mark hP gL 12
         replace hN := seesB_mark hN gL 12
         replace hbC := Lib.hid (mark_below hbC.out gL 12 hgL)
         clear hG hcv hgL
         generalize markW X gL 12 = X at *
         refine hKq.out _ _ ?_ (fun hHeld => ?_)
         · intro _; (try dsimp only); (first | exact K.out _ hbC.out | exact K.out _ (bdrew W2) | exact K.out _ (bgo hbC.out (balloc _ _)))
         clear hKq Kq
         try simp only [Act.put, List.getElem_toArray, List.getElem_cons_succ, List.getElem_cons_zero, List.setIfInBounds_toArray, List.set_cons_zero, List.set_cons_succ]
         refine wpAnyJ_ready (rs := [13]) (by kernel_rfl) (by simp) ?_
         refine AllReadyJ.cons (o := _) rfl (fun Kq hKq => ?_) ?_
         · go_simp
           refine hKq.out _ _ ?_ (fun hHeld => ?_)
           · intro _; (try dsimp only); (first | exact K.out _ hbC.out | exact K.out _ (bdrew W2) | exact K.out _ (bgo hbC.out (balloc _ _)))
           clear hKq Kq
           try simp only [Act.put, List.getElem_toArray, List.getElem_cons_succ, List.getElem_cons_zero, List.setIfInBounds_toArray, List.set_cons_zero, List.set_cons_succ]
           refine wpAnyJ_ready (rs := [14]) (by kernel_rfl) (by simp) ?_
           refine AllReadyJ.cons (o := _) rfl (fun Kq hKq => ?_) ?_
           · go_simp
             go_at_call 70
             refine (join_lit (vs := [_, _, _, _, _]) [tCert, putB 2 n.length, n, p, SL] X X X.heap.size rfl (Below.refl _ _) ⟨hL, hP, hN, seesB_of sp.out (Nat.le_refl _) hbC.out, seesB_of ssl.out (Nat.le_refl _) hbC.out, trivial⟩ (by simp) hlen.out).mono ?_
             rintro e w9 ⟨v9, rfl, h9, hb9⟩
             have hsz := Nat.le_trans hbw.out.size hbC.out.size
             replace hbC := Lib.hid (bgo hbC.out hb9)
             go_wp2_with fail
             refine hKq.out _ _ ?_ (fun hHeld => ?_)
             · intro _; (try dsimp only); (first | exact K.out _ hbC.out | exact K.out _ (bdrew W2) | exact K.out _ (bgo hbC.out (balloc _ _)))
             clear hKq Kq
             try simp only [Act.put, List.getElem_toArray, List.getElem_cons_succ, List.getElem_cons_zero, List.setIfInBounds_toArray, List.set_cons_zero, List.set_cons_succ]
             refine wpAnyJ_ready (rs := [15]) (by kernel_rfl) (by simp) ?_
             refine AllReadyJ.cons (o := _) rfl (fun Kq hKq => ?_) ?_
             · go_simp
               refine hKq.out _ _ ?_ (fun hHeld => ?_)
               · intro hl; exact absurd hl (by decide)
               clear hKq Kq
               try simp only [Act.put, List.getElem_toArray, List.getElem_cons_succ, List.getElem_cons_zero, List.setIfInBounds_toArray, List.set_cons_zero, List.set_cons_succ]
               refine wpAnyJ_done (by kernel_rfl) ?_ _
               go_wp2_with fail
               go_ret
               rw [hfl.out] at h9
               exact ⟨v9, rfl, h9.mono hsz, bgo hbw.out hbC.out⟩
             exact AllReadyJ.nil
           exact AllReadyJ.nil
         exact AllReadyJ.nil
       exact AllReadyJ.nil
     exact AllReadyJ.nil
   exact AllReadyJ.nil
 exact AllReadyJ.nil
end Go.Proofs.YtjgepckncogdaaaGreat

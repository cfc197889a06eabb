/- What a law leans on beyond the base: contracts, plain functions, walks. Conditions: those of each theorem. -/
import Derived.Test.YtjgepckncogdaaaGreatSCtG
set_option linter.unusedVariables false
set_option linter.unusedSimpArgs false
namespace Go.Proofs.YtjgepckncogdaaaGreat
open Go Go.RowKit
set_option linter.unusedVariables false
set_option linter.unusedSimpArgs false
attribute [local go_sem ↓] Go.wp_at_zero Go.wp_at_succ
def csgAll (sd : Bs) (h n0 : Int) (n p : Bs) (f t : Int) : Bs × Int × Int × CertG × Int :=
 if (validI sd h n0 && formB n p.length f t) = true then
  if (signAll sd h n0 (ctextB n p f t)).2.2.2.2 = 0 then ((signAll sd h n0 (ctextB n p f t)).1, (signAll sd h n0 (ctextB n p f t)).2.1, (signAll sd h n0 (ctextB n p f t)).2.2.1, (n, p, f, t, (signAll sd h n0 (ctextB n p f t)).2.2.2.1), 0)
  else ([], 0, 0, ([], [], 0, 0, []), (signAll sd h n0 (ctextB n p f t)).2.2.2.2)
 else ([], 0, 0, ([], [], 0, 0, []), 3)
def CSgAP (R : Bs × Int × Int × CertG × Int) (w : World) (e : Ending) (w' : World) : Prop :=
 ∃ v v2 v3, e = .returned (.tuple #[.agg #[v, .int .i64 R.2.1, .int .i64 R.2.2.1], .agg #[.string (strB R.2.2.2.1.1), v2, .int .i64 R.2.2.2.1.2.2.1, .int .i64 R.2.2.2.1.2.2.2.1, v3], .int .i64 R.2.2.2.2]) ∧ SeesB w' w'.heap.size v R.1 ∧ SeesB w' w'.heap.size v2 R.2.2.2.1.2.1 ∧ SeesB w' w'.heap.size v3 R.2.2.2.1.2.2.2.2 ∧ Below w.heap.size w w'
theorem csgAll_len (sd : Bs) (h n0 : Int) (n p : Bs) (f t : Int) (hn : n.length ≤ 40) : (csgAll sd h n0 n p f t).2.2.2.1.1.length ≤ 40 ∧ (csgAll sd h n0 n p f t).2.2.2.1.2.2.2.2.length ≤ 65535 := by
 unfold csgAll
 split
 · rename_i hv
   split
   · refine ⟨hn, ?_⟩
     simp only
     unfold signAll
     split
     · rename_i hvv
       split
       · simp
       · simp only
         have hh : sd.length = 32 ∧ 0 ≤ h ∧ h ≤ 6 ∧ 0 ≤ n0 ∧ n0 ≤ 2 ^ h.toNat := by simp [validI] at hvv; omega
         rw [sigG_len]
         omega
     · simp
   · simp
 · simp
theorem csg_of {sd : Bs} {h n0 : Int} {n p : Bs} {f t : Int} {w : World} {e : Ending} {w' : World} (hv : (validI sd h n0 && formB n p.length f t) = true) (H : CSgnP n p f t (signAll sd h n0 (ctextB n p f t)) w e w') : CSgAP (csgAll sd h n0 n p f t) w e w' := by
 obtain ⟨v, v2, v3, h1, h2, h3, h4, h5⟩ := H
 have hvv : validI sd h n0 = true := by rw [Bool.and_eq_true] at hv; exact hv.1
 by_cases hE : (signAll sd h n0 (ctextB n p f t)).2.2.2.2 = 0
 · have hc : csgAll sd h n0 n p f t = ((signAll sd h n0 (ctextB n p f t)).1, (signAll sd h n0 (ctextB n p f t)).2.1, (signAll sd h n0 (ctextB n p f t)).2.2.1, (n, p, f, t, (signAll sd h n0 (ctextB n p f t)).2.2.2.1), 0) := by
    unfold csgAll; rw [if_pos hv, if_pos hE]
   rw [hc]
   rw [if_pos hE] at h1 h3
   exact ⟨v, v2, v3, by rw [h1, hE], h2, h3, h4, h5⟩
 · have hc : csgAll sd h n0 n p f t = ([], 0, 0, ([], [], 0, 0, []), (signAll sd h n0 (ctextB n p f t)).2.2.2.2) := by
    unfold csgAll; rw [if_pos hv, if_neg hE]
   rw [hc]
   generalize hr : signAll sd h n0 (ctextB n p f t) = r at *
   obtain ⟨sd1, h1', n1, SG, E⟩ := r
   obtain ⟨-, rfl, rfl, rfl, rfl⟩ := signAll_err hr hvv hE
   rw [if_neg hE] at h1 h3
   exact ⟨v, .slice none 0 0, .slice none 0 0, h1, h2, SeesB.nil _ _, SeesB.nil _ _, h5⟩
theorem csg_any (B : Nat) (u u2 : Value) (sd n p : Bs) (h n0 f t : Int) (w : World) (hu : SeesB w B u sd) (hu2 : SeesB w B u2 p) (hB : B ≤ w.heap.size) :
 Calls Tryz.prog 49 #[.agg #[u, .int .i64 h, .int .i64 n0], .agg #[.string (strB n), u2, .int .i64 f, .int .i64 t, .slice none 0 0]] w (CSgAP (csgAll sd h n0 n p f t) w) := by
 cases hv : (validI sd h n0 && formB n p.length f t) with
 | true =>
   have h2 := hv
   rw [Bool.and_eq_true] at h2
   exact (csgn_any B u u2 sd n p h n0 f t w hu hu2 hB h2.1 h2.2 _ rfl).mono fun _ _ H => csg_of hv H
 | false =>
   rw [show csgAll sd h n0 n p f t = ([], 0, 0, ([], [], 0, 0, []), 3) by unfold csgAll; rw [hv]; rfl]
   exact (csign_bad B u u2 sd n p h n0 f t w hu hu2 hB hv).mono fun _ _ H => ⟨_, _, _, H.1, SeesB.nil _ _, SeesB.nil _ _, SeesB.nil _ _, H.2⟩
theorem rcsg_any (B : Nat) (u u2 : Value) (sd n p : Bs) (h n0 f t : Int) (w : World) (hu : SeesB w B u sd) (hu2 : SeesB w B u2 p) (hB : B ≤ w.heap.size) :
 Calls Tryz.prog 50 #[.agg #[u, .int .i64 h, .int .i64 n0], .agg #[.string (strB n), u2, .int .i64 f, .int .i64 t, .slice none 0 0]] w (CSgAP (csgAll sd h n0 n p f t) w) := by
 cases hv : (validI sd h n0 && formB n p.length f t) with
 | true =>
   have h2 := hv
   rw [Bool.and_eq_true] at h2
   exact (crsgn_any B u u2 sd n p h n0 f t w hu hu2 hB h2.1 h2.2 _ rfl).mono fun _ _ H => csg_of hv H
 | false =>
   rw [show csgAll sd h n0 n p f t = ([], 0, 0, ([], [], 0, 0, []), 3) by unfold csgAll; rw [hv]; rfl]
   exact (crsign_bad B u u2 sd n p h n0 f t w hu hu2 hB hv).mono fun _ _ H => ⟨_, _, _, H.1, SeesB.nil _ _, SeesB.nil _ _, SeesB.nil _ _, H.2⟩
set_option maxRecDepth 100000 in
set_option maxHeartbeats 1000000 in
theorem rcertsame_any (u u2 v v2 : Value) (n p s : Bs) (f t : Int) (w : World) (hu : SeesB w w.heap.size u p) (hu2 : SeesB w w.heap.size u2 p) (hv : SeesB w w.heap.size v s) (hv2 : SeesB w w.heap.size v2 s) :
 Calls Tryz.prog 52 #[.agg #[.string (strB n), u, .int .i64 f, .int .i64 t, v], .agg #[.string (strB n), u2, .int .i64 f, .int .i64 t, v2]] w (BoolPost true w) := by
 obtain ⟨A, c, rfl, -, -⟩ := hu.mk_
 obtain ⟨A2, c2, rfl, -, -⟩ := hu2.mk_
 obtain ⟨A3, c3, rfl, -, -⟩ := hv.mk_
 obtain ⟨A4, c4, rfl, -, -⟩ := hv2.mk_
 generalize strB n = S0
 have hb := bgo (balloc w (.cells #[.string S0, .slice A p.length c, .int .i64 f, .int .i64 t, .slice A3 s.length c3] 70)) (balloc _ (.cells #[.string S0, .slice A2 p.length c2, .int .i64 f, .int .i64 t, .slice A4 s.length c4] 70))
 have hs := rsame_any _ _ _ _ p p _ (hu.below hb) (hu2.below hb)
 have hs2 := rsame_any _ _ _ _ s s _ (hv.below hb) (hv2.below hb)
 rw [beq_self_eq_true] at hs hs2
 replace hs := Lib.hid hs
 replace hs2 := Lib.hid hs2
 replace hb := Lib.hid hb
 clear hu hu2 hv hv2
 go_enter Tryz.func52, Tryz.ntmps52
 go_wp2_with fail
 refine hs.out.mono ?_
 rintro e w4 ⟨rfl, rfl⟩
 dsimp only
 go_wp2_with fail
 refine hs2.out.mono ?_
 rintro e w5 ⟨rfl, rfl⟩
 dsimp only
 go_wp2_with fail
 go_ret
 exact ⟨ret_bool (by simp), hb.out⟩
end Go.Proofs.YtjgepckncogdaaaGreat

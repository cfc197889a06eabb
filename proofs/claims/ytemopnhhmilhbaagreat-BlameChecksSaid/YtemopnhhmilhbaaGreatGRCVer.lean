/- Contracts that a law leans on, and its walk. Conditions: those of each theorem. -/
import Derived.Test.YtemopnhhmilhbaaGreatG1
import Derived.Test.YtemopnhhmilhbaaGreatD24
namespace Go.Proofs.YtemopnhhmilhbaaGreat
open Go Go.RowKit
set_option linter.unusedVariables false
set_option linter.unusedSimpArgs false
attribute [local go_sem ↓] Go.wp_at_zero Go.wp_at_succ
set_option maxRecDepth 100000 in
set_option maxHeartbeats 8000000 in
theorem rcverify_any (B : Nat) (u : Value) (ls : List LinkG) (w : World) (hu : SeesR w B u 3 ls.length (linkS ls)) (hB : B ≤ w.heap.size) (hn : ls.length ≤ 1048576) (hl : ∀ t ∈ ls, t.2.2.length ≤ 1048576) :
 Calls Tryz.prog 20 #[u] w (CVerP ls w) := by
 obtain ⟨A, c, rfl, -, -⟩ := hu.mk_
 by_cases h8 : 8 < ls.length
 · have i0 : (8 : Int) < (ls.length : Int) := by omega
   have hC : Hid (cverC ls = 8) := by show _ = _; rw [cverC, if_pos h8]
   clear hu hl
   go_enter Tryz.func20, Tryz.ntmps20
   go_wp2_with fail
   go_returns
   exact cver_bad hC.out (by decide) (Below.refl _ _)
 have i0 : ¬ (8 : Int) < (ls.length : Int) := by omega
 have hCC : Hid (cverC ls = firstC ls ls.length) := by show _ = _; rw [cverC, if_neg h8]
 replace hu := Lib.hid (hu.more hB)
 replace hl := Lib.hid hl
 go_enter Tryz.func20, Tryz.ntmps20
 go_wp2_with fail
 go_loopw [4, 5] (fun r t wr => ∃ k : Nat, k ≤ ls.length ∧ t = .int .i64 k ∧ Hid (OwnR wr w.heap.size 40 r 2 k (spanS (cverK ls k))) ∧ Hid (Below w.heap.size w wr) ∧ Hid (firstC ls k = 0)) (fun _ t _ => ls.length - (intOf t).toNat)
 case atStart => exact ⟨0, by omega, rfl, OwnR.nil _ _ _ _, Below.refl _ _, rfl⟩
 case round =>
  obtain ⟨k, hk, rfl, ho, hb, hf⟩ := hrel
  obtain ⟨Ar, cr, rfl, -, -⟩ := ho.out.sees.mk_
  by_cases hlt : k < ls.length
  · have i1 : (k : Int) < (ls.length : Int) := by omega
    have i2 : (0 : Int) ≤ (k : Int) := by omega
    have hdk : ls[k]? = some (linkT ls k) := by rw [linkT, List.getD_eq_getElem?_getD, List.getElem?_eq_getElem hlt]; rfl
    have hs := (hu.out.below hb.out).more hb.out.size
    obtain ⟨b, o, A1, c1, A2, c2, A3, c3, eA, hbB, z1, s1, z2, s2, z3, s3⟩ := link_at hs k (linkT ls k) hdk
    subst eA
    have hat := rat_any wr.heap.size wr.heap.size _ _ ls (linkT ls k).2.1 wr hs (Nat.le_refl _) s2 (Nat.le_refl _) (by omega) k hk
    have hal := hl.out _ (List.mem_of_getElem? hdk)
    have hLC : Hid (linkC ls k = if nonceC (lastA (ls.take k)) (linkT ls k).2.1 = 0 then dverC (linkT ls k).1 (linkN ls k) (linkT ls k).2.2 else nonceC (lastA (ls.take k)) (linkT ls k).2.1) := rfl
    have hNN : Hid (linkN ls k = nonceG (lastA (ls.take k)) (linkT ls k).2.1) := rfl
    have hLV : Hid (linkV ls k = (dverLo (linkT ls k).1 (linkN ls k) (linkT ls k).2.2, dverHi (linkT ls k).1 (linkN ls k) (linkT ls k).2.2)) := rfl
    unfold NonP at hat
    rw [← hNN.out] at hat
    generalize linkT ls k = t at *
    generalize linkN ls k = N at *
    generalize nonceC (lastA (ls.take k)) t.2.1 = C1 at *
    obtain ⟨t1, t2, t3⟩ := t
    dsimp only at *
    replace hat := Lib.hid hat
    replace hdk := Lib.hid hdk
    have K : Hid (∀ W, Below wr.heap.size wr W → W.cell? ⟨b, o + k * 3, none⟩ = some (.slice A1 t1.length c1) ∧ W.cell? ⟨b, o + k * 3 + 2, none⟩ = some (.slice A3 t3.length c3)) := fun W hW => ⟨(hW.cell (p := ⟨b, o + k * 3, none⟩) hbB).trans z1, (hW.cell (p := ⟨b, o + k * 3 + 2, none⟩) hbB).trans z3⟩
    replace s1 := Lib.hid s1
    replace s3 := Lib.hid s3
    clear z1 z3 s2 hs
    go_wp2_with fail
    refine hat.out.mono ?_
    rintro e w1 ⟨v1, rfl, o1, hb1⟩
    obtain ⟨A4, c4, rfl, -, -⟩ := o1.sees.mk_
    clear hat z2
    dsimp only
    by_cases E1 : C1 = 0
    rotate_left
    · have hE : (C1 == 0) = false := by simp [E1]
      have hbad : Hid (cverC ls = C1) := by
       show _ = _
       have e9 : linkC ls k = C1 := by rw [hLC.out, if_neg E1]
       rw [hCC.out, first_bad ls k ls.length hf.out (by rw [e9]; exact E1) hlt, e9]
      replace E1 := Lib.hid E1
      go_wp2_with fail
      go_returns
      exact cver_bad hbad.out E1.out (bgo hb.out hb1)
    subst E1
    replace hLC : Hid (linkC ls k = dverC t1 N t3) := by show _ = _; rw [hLC.out, if_pos rfl]
    have hvA := fun (W : World) (hW : Below w1.heap.size w1 W) => rdverify_any W.heap.size _ _ _ t1 N t3 W (seesB_of s1.out (Nat.le_refl _) (bgo hb1 hW)) (seesB_of o1.sees (Nat.le_refl _) hW) (seesB_of s3.out (Nat.le_refl _) (bgo hb1 hW)) (Nat.le_refl _) hal
    unfold DVerP at hvA
    generalize dverLo t1 N t3 = lo at *
    generalize dverHi t1 N t3 = hi at *
    generalize dverC t1 N t3 = E2 at *
    have hv1 := Lib.hid (hvA w1.drew (bdrew w1))
    have hv2 := Lib.hid (hvA (w1.alloc (.cells #[.int .i64 0, .int .i64 0] 40)).drew (bgo (balloc w1 _) (bdrew _)))
    have hv3 := Lib.hid (hvA w1 (Below.refl _ _))
    have hv4 := Lib.hid (hvA (w1.alloc (.cells #[.int .i64 0, .int .i64 0] 40)) (balloc w1 _))
    have K1 : Hid (∀ W, Below w1.heap.size w1 W → W.cell? ⟨b, o + k * 3, none⟩ = some (.slice A1 t1.length c1) ∧ W.cell? ⟨b, o + k * 3 + 2, none⟩ = some (.slice A3 t3.length c3)) := fun W hW => K.out W (bgo hb1 hW)
    obtain ⟨k0, k1⟩ := K1.out w1 (Below.refl _ _)
    have ho1 := Lib.hid (ho.out.below hb1)
    replace hb := Lib.hid (bgo hb.out hb1)
    clear hvA K s1 s3 o1 hal hb1 ho hbB
    go_wp2_with fail
    go_cut [8, 7] (fun v8 v7 W => V16 w1 lo hi E2 v8 v7 W)
    case first =>
     go_region_held3 (fun W' : World => W'.cell? ⟨b, o + k * 3, none⟩ = some (.slice A1 t1.length c1) ∧ W'.cell? ⟨b, o + k * 3 + 2, none⟩ = some (.slice A3 t3.length c3))
      (first | (with_reducible exact K1.out _ hb7) | (with_reducible exact K1.out _ (below_set2 hb7 (Nat.le_refl _) _ _)) | exact K1.out _ (by (repeat (first | exact Below.refl _ _ | (refine bgo ?_ (balloc _ _)) | (refine bgo ?_ (bdrew _)) | (refine bgo ?_ (by assumption))))) | (go_keep; done))
      (first
       | (go_at_call 73; (with_reducible refine hv1.out.mono ?_); rintro e w7 ⟨rfl, hb7⟩
          replace hb7 := bgo (bdrew w1) hb7)
       | (go_at_call 73; (with_reducible refine hv2.out.mono ?_); rintro e w7 ⟨rfl, hb7⟩
          have bz := ((Box.new w1 40 [.int .i64 0, .int .i64 0]).below (bdrew _)).below hb7
          replace hb7 := bgo (bgo (balloc w1 _) (bdrew _)) hb7
          obtain ⟨e0, e1, j0, j1⟩ := box2_cells bz)
       | (go_at_call 73; (with_reducible refine hv3.out.mono ?_); rintro e w7 ⟨rfl, hb7⟩)
       | (go_at_call 73; (with_reducible refine hv4.out.mono ?_); rintro e w7 ⟨rfl, hb7⟩
          have bz := (Box.new w1 40 [.int .i64 0, .int .i64 0]).below hb7
          replace hb7 := bgo (balloc w1 _) hb7
          obtain ⟨e0, e1, j0, j1⟩ := box2_cells bz))
     all_goals
      go_wp2_with fail
      go_meet
      first
       | (with_reducible exact v16_new w1 w7 _ _ _ hb7)
       | (with_reducible exact v16_set w1 w7 _ _ _ _ bz (Nat.le_refl _) hb7)
    case rest =>
    obtain ⟨g8, rfl, rfl, x8, hg8, hb7⟩ := hcut
    obtain ⟨w7, rfl⟩ : ∃ w7 : World, w7 = wc := ⟨_, rfl⟩
    replace ho1 := Lib.hid (ho1.out.below hb7)
    replace hb := Lib.hid (bgo hb.out hb7)
    clear k0 k1 K1 hv1 hv2 hv3 hv4 hb7 hg8
    by_cases E3 : E2 = 0
    rotate_left
    · have hE : (E2 == 0) = false := by simp [E3]
      have hbad : Hid (cverC ls = E2) := by
       show _ = _
       rw [hCC.out, first_bad ls k ls.length hf.out (by rw [hLC.out]; exact E3) hlt, hLC.out]
      replace E3 := Lib.hid E3
      clear x8
      go_wp2_with fail
      go_returns
      exact cver_bad hbad.out E3.out hb.out
    subst E3
    have hf2 : Hid (firstC ls (k + 1) = 0) := by show _ = _; rw [first_ok ls k hf.out, hLC.out]
    have hst : Hid (spanS (cverK ls (k + 1)) = spanS (cverK ls k) ++ [.val (.int .i64 lo), .val (.int .i64 hi)]) := by show _ = _; rw [cverK_next, spanS_append, hLV.out]; rfl
    generalize spanS (cverK ls k) = acc at *
    obtain ⟨m0, m1⟩ := boxT2 x8
    have hal8 := balloc w7 (.cells #[.int .i64 lo, .int .i64 hi] 40)
    have hrec : Hid (Sees (w7.alloc (.cells #[.int .i64 lo, .int .i64 hi] 40)) (w7.heap.size + 1) (.slice (some ⟨w7.heap.size, 0, none⟩) 1 1) 2 1 [.int .i64 lo, .int .i64 hi]) := rec_lit w7 40 [.int .i64 lo, .int .i64 hi]
    have ho2 := Lib.hid (ho1.out.below hal8)
    have hb3 := Lib.hid (bgo hb.out hal8)
    have hel := Lib.hid (val_elts (w7.alloc (.cells #[.int .i64 lo, .int .i64 hi] 40)) (.slice Ar k cr) lo hi)
    obtain ⟨ti, hti, htz, hts', htby⟩ := info_parts span_info
    replace hti := Lib.hid hti
    replace htz := Lib.hid htz
    replace hts' := Lib.hid hts'
    replace htby := Lib.hid htby
    clear hal8 ho1 hb hLC hLV hNN
    go_wp2_with (at_builtin; refine wpList_appR (by rfl) _ _ 23 40 Tryz.underlying23 rfl ti _ 2 16 hti.out htz.out hts'.out htby.out rfl (by omega) (by omega) w.heap.size _ k _ rfl ho2.out _ _ 1 _ [.val (.int .i64 lo), .val (.int .i64 hi)] rfl hrec.out rfl hel.out (by omega) hb3.out.size ?_)
    intro v' w' hW2 hb4
    replace hW2 : Hid (OwnR w' w.heap.size 40 v' 2 (k + 1) (spanS (cverK ls (k + 1)))) := by show OwnR _ _ _ _ _ _ _; rw [hst.out]; exact hW2
    have hb4 := Lib.hid (hb3.out.trans hb4)
    go_wp2_with fail
    go_roundw
    case rel => first | exact ⟨k + 1, by omega, by go_num, hW2, hb4, hf2⟩ | ((repeat apply Exists.intro); exact ⟨⟨k + 1, by omega, by go_num, hW2, hb4, hf2⟩, rfl⟩)
    case measure => simp [intOf]; omega
  · obtain rfl : k = ls.length := by omega
    have i1 : ¬ (ls.length : Int) < (ls.length : Int) := by omega
    have hok : Hid (cverC ls = 0) := by show _ = _; rw [hCC.out, hf.out]
    go_wp2_with fail
    go_returns
    exact cver_ok hok.out ho.out.sees hb.out
end Go.Proofs.YtemopnhhmilhbaaGreat

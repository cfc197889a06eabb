/- Contracts that a law leans on, and its walk. Conditions: those of each theorem. -/
import Derived.Test.YtgehkgjllhkhoaaGreatI1
namespace Go.Proofs.YtgehkgjllhkhoaaGreat
open Go Go.RowKit
set_option linter.unusedVariables false
set_option linter.unusedSimpArgs false
attribute [local go_sem ↓] Go.wp_at_zero Go.wp_at_succ
set_option maxRecDepth 100000 in
set_option maxHeartbeats 4000000 in
theorem rcsame_eq (u v : Value) (ls : List LinkG) (w : World) (hu : SeesR w w.heap.size u 3 ls.length (linkS ls)) (hv : SeesR w w.heap.size v 3 ls.length (linkS ls)) (hn : ls.length ≤ 1048576) :
 Calls Tryz.prog 23 #[u, v] w (BoolPost true w) := by
 obtain ⟨A, c, rfl, -, -⟩ := hu.mk_
 obtain ⟨A', c', rfl, -, -⟩ := hv.mk_
 replace hu := Lib.hid hu
 replace hv := Lib.hid hv
 go_enter Tryz.func23, Tryz.ntmps23
 go_wp2_with fail
 go_loopw [5] (fun t wr => ∃ k : Nat, k ≤ ls.length ∧ t = .int .i64 k ∧ Hid (Below w.heap.size w wr)) (fun t _ => ls.length - (intOf t).toNat)
 case atStart => exact ⟨0, by omega, rfl, Below.refl _ _⟩
 case round =>
  obtain ⟨k, hk, rfl, hb⟩ := hrel
  by_cases hlt : k < ls.length
  · have hdk : ls[k]? = some (linkT ls k) := by rw [linkT, List.getD_eq_getElem?_getD, List.getElem?_eq_getElem hlt]; rfl
    obtain ⟨b, o, A1, c1, A2, c2, A3, c3, eA, hbB, z1, s1, z2, s2, z3, s3⟩ := link_at ((hu.out.below hb.out).more hb.out.size) k _ hdk
    obtain ⟨b', o', A4, c4, A5, c5, A6, c6, eA', hbB', z4, s4, z5, s5, z6, s6⟩ := link_at ((hv.out.below hb.out).more hb.out.size) k _ hdk
    subst eA
    subst eA'
    generalize linkT ls k = t at *
    obtain ⟨t1, t2, t3⟩ := t
    dsimp only at *
    have i0 : (k : Int) < (ls.length : Int) := by omega
    have j0 : (0 : Int) ≤ (k : Int) := by omega
    have hs1 : Hid (∀ W, Below wr.heap.size wr W → Calls Tryz.prog 20 #[.slice A1 t1.length c1, .slice A4 t1.length c4] W fun e w' => e = .returned (.bool true) ∧ w' = W) := fun W hW => rsame_eq _ _ _ _ t1 W (seesB_of s1 (Nat.le_refl _) hW) (seesB_of s4 (Nat.le_refl _) hW)
    have hs2 : Hid (∀ W, Below wr.heap.size wr W → Calls Tryz.prog 20 #[.slice A2 t2.length c2, .slice A5 t2.length c5] W fun e w' => e = .returned (.bool true) ∧ w' = W) := fun W hW => rsame_eq _ _ _ _ t2 W (seesB_of s2 (Nat.le_refl _) hW) (seesB_of s5 (Nat.le_refl _) hW)
    have hs3 : Hid (∀ W, Below wr.heap.size wr W → Calls Tryz.prog 20 #[.slice A3 t3.length c3, .slice A6 t3.length c6] W fun e w' => e = .returned (.bool true) ∧ w' = W) := fun W hW => rsame_eq _ _ _ _ t3 W (seesB_of s3 (Nat.le_refl _) hW) (seesB_of s6 (Nat.le_refl _) hW)
    have K : Hid (∀ W, Below wr.heap.size wr W → W.cell? ⟨b, o + k * 3, none⟩ = some (.slice A1 t1.length c1) ∧ W.cell? ⟨b, o + k * 3 + 1, none⟩ = some (.slice A2 t2.length c2) ∧ W.cell? ⟨b, o + k * 3 + 2, none⟩ = some (.slice A3 t3.length c3) ∧ W.cell? ⟨b', o' + k * 3, none⟩ = some (.slice A4 t1.length c4) ∧ W.cell? ⟨b', o' + k * 3 + 1, none⟩ = some (.slice A5 t2.length c5) ∧ W.cell? ⟨b', o' + k * 3 + 2, none⟩ = some (.slice A6 t3.length c6)) := fun W hW =>
     ⟨(hW.cell (p := ⟨b, o + k * 3, none⟩) hbB).trans z1, (hW.cell (p := ⟨b, o + k * 3 + 1, none⟩) hbB).trans z2, (hW.cell (p := ⟨b, o + k * 3 + 2, none⟩) hbB).trans z3, (hW.cell (p := ⟨b', o' + k * 3, none⟩) hbB').trans z4, (hW.cell (p := ⟨b', o' + k * 3 + 1, none⟩) hbB').trans z5, (hW.cell (p := ⟨b', o' + k * 3 + 2, none⟩) hbB').trans z6⟩
    clear s1 s2 s3 s4 s5 s6 hdk hbB hbB'
    go_wp2_with fail
    go_region_held3 (fun W' : World => W'.cell? ⟨b, o + k * 3, none⟩ = some (.slice A1 t1.length c1) ∧ W'.cell? ⟨b, o + k * 3 + 1, none⟩ = some (.slice A2 t2.length c2) ∧ W'.cell? ⟨b, o + k * 3 + 2, none⟩ = some (.slice A3 t3.length c3) ∧ W'.cell? ⟨b', o' + k * 3, none⟩ = some (.slice A4 t1.length c4) ∧ W'.cell? ⟨b', o' + k * 3 + 1, none⟩ = some (.slice A5 t2.length c5) ∧ W'.cell? ⟨b', o' + k * 3 + 2, none⟩ = some (.slice A6 t3.length c6))
     (first | exact K.out _ (by (repeat (first | exact Below.refl _ _ | (refine bgo ?_ (balloc _ _)) | (refine bgo ?_ (bdrew _)) | (refine bgo ?_ (by assumption))))) | (go_keep; done))
     (first
      | (go_at_call 20; (with_reducible refine (hs1.out _ (by (repeat (first | exact Below.refl _ _ | (refine bgo ?_ (balloc _ _)) | (refine bgo ?_ (bdrew _)) | (refine bgo ?_ (by assumption)))))).mono ?_); rintro e w1 ⟨rfl, hw⟩
         obtain rfl := hw.symm)
      | (go_at_call 20; (with_reducible refine (hs2.out _ (by (repeat (first | exact Below.refl _ _ | (refine bgo ?_ (balloc _ _)) | (refine bgo ?_ (bdrew _)) | (refine bgo ?_ (by assumption)))))).mono ?_); rintro e w1 ⟨rfl, hw⟩
         obtain rfl := hw.symm)
      | (go_at_call 20; (with_reducible refine (hs3.out _ (by (repeat (first | exact Below.refl _ _ | (refine bgo ?_ (balloc _ _)) | (refine bgo ?_ (bdrew _)) | (refine bgo ?_ (by assumption)))))).mono ?_); rintro e w1 ⟨rfl, hw⟩
         obtain rfl := hw.symm))
    all_goals
     have hb1 := Lib.hid (bgo hb.out (bdrew wr))
     go_wp2_with fail
     go_roundw
     case rel => first | exact ⟨k + 1, by omega, by go_num, hb1⟩ | exact ⟨k + 1, by omega, by go_num, hb⟩
     case measure => simp [intOf]; omega
  · have i0 : ¬ (k : Int) < (ls.length : Int) := by omega
    go_wp2_with fail
    go_returns
    exact ⟨rfl, hb.out⟩
end Go.Proofs.YtgehkgjllhkhoaaGreat

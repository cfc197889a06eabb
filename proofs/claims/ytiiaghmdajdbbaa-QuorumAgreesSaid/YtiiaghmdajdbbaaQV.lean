/- Contract of sectimeref35.sorted. Conditions: the numbers are seen, at most 64. -/
import Derived.Test.YtiiaghmdajdbbaaQT
namespace Go.Proofs.Ytiiaghmdajdbbaa
open Go.RowKit
set_option linter.unusedVariables false
set_option linter.unusedSimpArgs false
attribute [local go_sem ↓] Go.wp_at_zero Go.wp_at_succ
theorem insI_perm {xs : List Int} {k : Nat} {x : Int} : (insI xs k x).Perm (xs ++ [x]) := by
  unfold insI
  have h := List.take_append_drop k xs
  conv => rhs; rw [← h]
  rw [List.append_assoc, List.append_assoc]
  exact List.Perm.append_left _ List.perm_append_comm
theorem Acc.bel {w0 W : World} {v : Value} {xs : List Int} (h : Acc w0 W v xs) : Below w0.heap.size w0 W := h.2
theorem sort_lit {w w' : World} {u : Value} {xs : List Int} {k : Nat} {x : Int} (h : Acc w w' u ([] ++ xs.take k ++ [x] ++ xs.drop k)) : Lit w' u (insI xs k x) := by
  rw [List.nil_append] at h
  exact Sees.of_own h.1
def SortP (l : List Int) (w : World) (e : Ending) (w' : World) : Prop := ∃ v, e = .returned v ∧ Lit w' v (srt l) ∧ Below w.heap.size w w'
theorem sort_done {l xs : List Int} {k : Nat} {w w' : World} {v : Value} (h : xs.Perm (l.take k)) (hk : k = l.length) (ha : xs.Pairwise (· ≤ ·)) (hs : Lit w' v xs) (hb : Below w.heap.size w w') : SortP l w (.returned v) w' := by
  subst hk
  rw [List.take_of_length_le (Nat.le_refl _)] at h
  exact ⟨v, rfl, (srt_uniq h ha) ▸ hs, hb⟩
set_option maxRecDepth 100000 in
set_option maxHeartbeats 4000000 in
theorem sorted_any (B : Nat) (u : Value) (l : List Int) (w : World) (hu : SeesI w B u l) (hB : B ≤ w.heap.size) (hn : l.length ≤ 64) :
    Calls Try.prog 34 #[u] w (SortP l w) := by
  obtain ⟨A, c, rfl, hlc, hc⟩ := hu.mk_
  unfold maxLen at hc
  replace hu := Lib.hid hu
  go_enter Try.func34, Try.ntmps34
  go_wp2_with fail
  go_loopw [3, 4, 5] (fun s i _ wr => ∃ (i1 : Nat) (xs : List Int), i1 ≤ l.length ∧ i = .int .i64 i1 ∧ Hid (Lit wr s xs) ∧ Hid (xs.Perm (l.take i1)) ∧ Hid (xs.Pairwise (· ≤ ·)) ∧ Hid (Below w.heap.size w wr)) (fun _ i _ _ => l.length - (intOf i).toNat)
  case atStart => exact ⟨0, [], by omega, rfl, Sees.nil _ _ _, List.Perm.refl _, List.Pairwise.nil, Below.refl _ _⟩
  case round =>
    obtain ⟨i1, xs, hi1, rfl, hs, hp, ha, hb⟩ := hrel
    obtain ⟨As, cs, rfl, hcl, hcm⟩ := SeesI.mk_ hs.out
    unfold maxLen at hcm
    by_cases hlt : i1 < l.length
    · obtain ⟨b, o, rfl, hbB, hds⟩ := SeesI.at_ (Sees.below hu.out (hb.out.mono hB)) (by omega)
      obtain ⟨x, hx⟩ : ∃ x, l[i1]? = some x := ⟨_, List.getElem?_eq_getElem hlt⟩
      have z0 := hds i1 x hx
      have hxl : xs.length ≤ 64 := by rw [hp.out.length_eq]; exact Nat.le_trans (List.length_take_le _ _) (by omega)
      have hpn : Hid ((xs ++ [x]).Perm (l.take (i1 + 1))) := by
        show List.Perm _ _
        rw [List.take_add_one, hx]
        exact List.Perm.append_right _ hp.out
      have j0 : (i1 : Int) < (l.length : Int) := by omega
      have j1 : (0 : Int) ≤ (i1 : Int) := by omega
      replace hx := Lib.hid hx
      clear hds
      go_wp2_with fail
      obtain ⟨wo, rfl⟩ : ∃ wo : World, wo = wr := ⟨_, rfl⟩
      go_loopw [5] (fun t wr => ∃ k m : Nat, k ≤ xs.length ∧ t = .int .i64 k ∧ wr = wo.drewN m ∧ Hid (∀ (j : Nat) y, j < k → xs[j]? = some y → y < x)) (fun t _ => xs.length - (intOf t).toNat)
      case atStart => exact ⟨0, 0, by omega, rfl, rfl, fun j y hj => absurd hj (by omega)⟩
      case round =>
        obtain ⟨k, m, hk, rfl, rfl, hlo⟩ := hrel
        by_cases hlt2 : k < xs.length
        · obtain ⟨b2, o2, rfl, hbB2, hds⟩ := SeesI.at_ hs.out (by omega)
          obtain ⟨y, hy⟩ : ∃ y, xs[k]? = some y := ⟨_, List.getElem?_eq_getElem hlt2⟩
          have z1 := hds k y hy
          have i0 : (k : Int) < (xs.length : Int) := by omega
          have i1' : (0 : Int) ≤ (k : Int) := by omega
          replace hy := Lib.hid hy
          clear hds
          by_cases hxy : y < x
          · have hlo2 : Hid (∀ (j : Nat) y, j < k + 1 → xs[j]? = some y → y < x) := fun j y' hj hy' => by
              rcases Nat.lt_or_ge j k with h | h
              · exact hlo.out j y' h hy'
              · obtain rfl : j = k := by omega
                rw [hy.out] at hy'; cases hy'; exact hxy
            have i5 : decide (y < x) = true := decide_eq_true hxy
            go_wp2_with fail
            go_quiet (fail)
            go_wp2_with fail
            go_roundw
            case rel => exact ⟨k + 1, _, by omega, by go_num, rfl, hlo2⟩
            case measure => simp [intOf]; omega
          · have i5 : decide (y < x) = false := decide_eq_false hxy
            have hgt : Hid (∀ (j : Nat) z, k ≤ j → xs[j]? = some z → x ≤ z) := fun j z hj hz => by
              obtain ⟨h1, e1⟩ := List.getElem?_eq_some_iff.1 hy.out
              obtain ⟨h2, e2⟩ := List.getElem?_eq_some_iff.1 hz
              rcases Nat.lt_or_ge k j with h | h
              · have := List.pairwise_iff_getElem.1 ha.out k j h1 h2 h
                rw [e1, e2] at this; omega
              · obtain rfl : j = k := by omega
                rw [hy.out] at hz; cases hz; omega
            go_wp2_with fail
            go_quiet (fail)
            go_wp2_with fail
            clear z1 i5
            have hdr : Below wo.heap.size wo ((wo.drewN m).drewN nq) := below_drewN (below_drewN (Below.refl _ _) _) _
            replace hs := Lib.hid (Lit.below hs.out hdr)
            replace hb := Lib.hid (bgo hb.out hdr)
            clear hdr z0
            generalize (wo.drewN m).drewN nq = Wd at *
            have hK : Hid (∀ W, Below Wd.heap.size Wd W → W.cell? ⟨b, o + i1, none⟩ = some (.int .i64 x)) := fun W hW => by
              obtain ⟨b', o', e, -, hds'⟩ := SeesI.at_ (Sees.below hu.out ((bgo hb.out hW).mono hB)) (by omega)
              cases e
              exact hds' i1 x hx.out
            have z0 := hK.out Wd (Below.refl _ _)
            have r1 : ∀ W, (Instr.slice 22 (.slice (some ⟨b2, o2, none⟩) xs.length cs) none (some (.int .i64 (k : Int))) none).run Try.prog W = .ok (.slice (some ⟨b2, o2, none⟩) k cs) W := fun W => by
              have := run_cut_to (P := Try.prog) 22 Try.underlying22 1 int_size (some ⟨b2, o2, none⟩) xs.length cs .i64 (k : Int) (by omega) (by omega) W
              rw [cutA_zero] at this
              exact this
            have r2 : ∀ W, (Instr.slice 22 (.slice (some ⟨b2, o2, none⟩) xs.length cs) (some (.int .i64 (k : Int))) none none).run Try.prog W = .ok (.slice (cutA (some ⟨b2, o2, none⟩) cs k 1) (xs.length - k) (cs - k)) W := fun W =>
              run_cut_from (P := Try.prog) 22 Try.underlying22 1 int_size (some ⟨b2, o2, none⟩) xs.length cs .i64 (k : Int) (by omega) (by omega) W
            have S1 : Hid (∀ W, Below Wd.heap.size Wd W → Lit W (.slice (some ⟨b2, o2, none⟩) k cs) (xs.take k)) := fun W hW => by
              have := SeesI.cut (a := 0) (b := k) (Lit.sees hs.out) (by omega) hk
              rw [cutA_zero, List.drop_zero, Nat.sub_zero, Nat.sub_zero] at this
              exact (Sees.below this hW).more hW.size
            have S2 : Hid (∀ W, Below Wd.heap.size Wd W → Lit W (.slice (cutA (some ⟨b2, o2, none⟩) cs k 1) (xs.length - k) (cs - k)) (xs.drop k)) := fun W hW => by
              have := SeesI.cut (a := k) (b := xs.length) (Lit.sees hs.out) hk (Nat.le_refl _)
              rw [List.take_of_length_le (by rw [List.length_drop]; exact Nat.le_refl _)] at this
              exact (Sees.below this hW).more hW.size
            generalize cutA (some ⟨b2, o2, none⟩) cs k 1 = A2 at *
            have l1 : Hid ((xs.take k).length ≤ 1000) := Nat.le_trans (List.length_take_le _ _) (by omega)
            have l2 : Hid ((xs.drop k).length ≤ 1000) := by show _ ≤ _; rw [List.length_drop]; omega
            have a1 : True := trivial
            have a2 : True := trivial
            have a3 : True := trivial
            obtain ⟨A1, n1, c1, A3, n2, c2⟩ : Option Addr × Nat × Nat × Option Addr × Nat × Nat := ⟨none, 0, 0, none, 0, 0⟩
            go_region_held3 (fun W' : World => W'.cell? ⟨b, o + i1, none⟩ = some (.int .i64 x))
              (first | (with_reducible exact hK.out _ (Acc.bel a3)) | (with_reducible exact hK.out _ (Acc.bel a2)) | (with_reducible exact hK.out _ (Acc.bel a1)) | (with_reducible exact hK.out _ (bgo (Acc.bel a1) (balloc _ _))) | (with_reducible exact hK.out _ (bgo (bgo (Acc.bel a1) (balloc _ _)) (bdrew _))) | exact hK.out _ (by (repeat (first | exact Below.refl _ _ | (refine bgo ?_ (balloc _ _)) | (refine bgo ?_ (bdrew _)) | (refine bgo ?_ (by assumption))))))
              (first
                | (refine step_appZ (by rfl) (.const (.slice none 0 0)) (.tmp 31) (by rfl) Wd (.slice none 0 0) [] (by rfl) (Acc.nil (by (repeat (first | exact Below.refl _ _ | (refine bgo ?_ (balloc _ _)) | (refine bgo ?_ (bdrew _)) | (refine bgo ?_ (by assumption)))))) (.slice (some ⟨b2, o2, none⟩) k cs) (xs.take k) (by rfl) (S1.out _ (by (repeat (first | exact Below.refl _ _ | (refine bgo ?_ (balloc _ _)) | (refine bgo ?_ (bdrew _)) | (refine bgo ?_ (by assumption)))))) (by have := l1.out; simp only [List.length_nil]; omega) ?_; intro v1 w1 a1 b1; obtain ⟨A1, n1, c1, rfl⟩ := a1.shape; replace b1 := b1 rfl)
                | (refine step_appZ (by rfl) (.tmp 32) (.tmp 37) (by rfl) Wd (.slice A1 n1 c1) ([] ++ xs.take k) (by rfl) ?_ (.slice (some ⟨w1.heap.size, 0, none⟩) 1 1) [x] (by rfl) ?_ ?_ ?_; (· (repeat (first | exact a1 | refine Acc.alloc ?_ _ | refine Acc.drew ?_))); (· (repeat (first | (with_reducible refine Lit.drew ?_) | (with_reducible refine Lit.new _ ?_) | (with_reducible refine Lit.below ?_ b1) | (with_reducible refine Lit.alloc ?_ _) | (with_reducible rfl) | (simp; done)))); (· (have := l1.out; have := l2.out; simp only [List.length_append, List.length_cons, List.length_nil]; omega)); intro v2 w2 a2 b2; obtain ⟨A3, n2, c2, rfl⟩ := a2.shape)
                | (refine step_appZ (by rfl) (.tmp 32) (.tmp 37) (by rfl) Wd (.slice A1 n1 c1) ([] ++ xs.take k) (by rfl) ?_ (.slice (some ⟨Wd.heap.size, 0, none⟩) 1 1) [x] (by rfl) ?_ ?_ ?_; (· (repeat (first | exact a1 | refine Acc.alloc ?_ _ | refine Acc.drew ?_))); (· (repeat (first | (with_reducible refine Lit.drew ?_) | (with_reducible refine Lit.new _ ?_) | (with_reducible refine Lit.below ?_ b1) | (with_reducible refine Lit.alloc ?_ _) | (with_reducible rfl) | (simp; done)))); (· (have := l1.out; have := l2.out; simp only [List.length_append, List.length_cons, List.length_nil]; omega)); intro v2 w2 a2 b2; obtain ⟨A3, n2, c2, rfl⟩ := a2.shape)
                | (refine step_appZ (by rfl) (.tmp 38) (.tmp 41) (by rfl) Wd (.slice A3 n2 c2) ([] ++ xs.take k ++ [x]) (by rfl) ?_ (.slice A2 (xs.length - k) (cs - k)) (xs.drop k) (by rfl) ?_ ?_ ?_; (· (repeat (first | exact a2 | refine Acc.alloc ?_ _ | refine Acc.drew ?_))); (· exact S2.out _ (Acc.bel a2)); (· (have := l1.out; have := l2.out; simp only [List.length_append, List.length_cons, List.length_nil]; omega)); intro v3 w3 a3 b3; obtain ⟨A4, n3, c3, rfl⟩ := a3.shape))
            all_goals
              rename_i hHeld
              clear hHeld z0
              have hfin : Hid (Lit w3 (.slice A4 n3 c3) (insI xs k x)) := sort_lit a3
              have hpf : Hid ((insI xs k x).Perm (l.take (i1 + 1))) := insI_perm.trans hpn.out
              have haf : Hid ((insI xs k x).Pairwise (· ≤ ·)) := insI_asc ha.out (fun j y hj hy => Int.le_of_lt (hlo.out j y hj hy)) hgt.out
              have hbf : Hid (Below w.heap.size w w3) := bgo hb.out (Acc.bel a3)
              go_wp2_with fail
              go_roundw
              case rel => exact ⟨i1 + 1, insI xs k x, by omega, by go_num, hfin, hpf, haf, hbf⟩
              case measure => simp [intOf]; omega
        · have hke : Hid (k = xs.length) := by show _ = _; omega
          have hgt : Hid (∀ (j : Nat) z, k ≤ j → xs[j]? = some z → x ≤ z) := fun j z hj hz => by
            rw [List.getElem?_eq_none (by have := hke.out; omega)] at hz; cases hz
          have i0 : ¬ (k : Int) < (xs.length : Int) := by omega
          go_wp2_with fail
          go_quiet (fail)
          go_wp2_with fail
          rename_i nq _
          have hdr : Below wo.heap.size wo ((wo.drewN m).drewN nq) := below_drewN (below_drewN (Below.refl _ _) _) _
          replace hs := Lib.hid (Lit.below hs.out hdr)
          replace hb := Lib.hid (bgo hb.out hdr)
          clear hdr z0
          generalize (wo.drewN m).drewN nq = Wd at *
          have hK : Hid (∀ W, Below Wd.heap.size Wd W → W.cell? ⟨b, o + i1, none⟩ = some (.int .i64 x)) := fun W hW => by
            obtain ⟨b', o', e, -, hds'⟩ := SeesI.at_ (Sees.below hu.out ((bgo hb.out hW).mono hB)) (by omega)
            cases e
            exact hds' i1 x hx.out
          have z0 := hK.out Wd (Below.refl _ _)
          have r1 : ∀ W, (Instr.slice 22 (.slice As xs.length cs) none (some (.int .i64 (k : Int))) none).run Try.prog W = .ok (.slice As k cs) W := fun W => by
            have := run_cut_to (P := Try.prog) 22 Try.underlying22 1 int_size As xs.length cs .i64 (k : Int) (by omega) (by omega) W
            rw [cutA_zero] at this
            exact this
          have r2 : ∀ W, (Instr.slice 22 (.slice As xs.length cs) (some (.int .i64 (k : Int))) none none).run Try.prog W = .ok (.slice (cutA As cs k 1) (xs.length - k) (cs - k)) W := fun W =>
            run_cut_from (P := Try.prog) 22 Try.underlying22 1 int_size As xs.length cs .i64 (k : Int) (by omega) (by omega) W
          have S1 : Hid (∀ W, Below Wd.heap.size Wd W → Lit W (.slice As k cs) (xs.take k)) := fun W hW => by
            have := SeesI.cut (a := 0) (b := k) (Lit.sees hs.out) (by omega) hk
            rw [cutA_zero, List.drop_zero, Nat.sub_zero, Nat.sub_zero] at this
            exact (Sees.below this hW).more hW.size
          have S2 : Hid (∀ W, Below Wd.heap.size Wd W → Lit W (.slice (cutA As cs k 1) (xs.length - k) (cs - k)) (xs.drop k)) := fun W hW => by
            have := SeesI.cut (a := k) (b := xs.length) (Lit.sees hs.out) hk (Nat.le_refl _)
            rw [List.take_of_length_le (by rw [List.length_drop]; exact Nat.le_refl _)] at this
            exact (Sees.below this hW).more hW.size
          generalize cutA As cs k 1 = A2 at *
          have l1 : Hid ((xs.take k).length ≤ 1000) := Nat.le_trans (List.length_take_le _ _) (by omega)
          have l2 : Hid ((xs.drop k).length ≤ 1000) := by show _ ≤ _; rw [List.length_drop]; omega
          have a1 : True := trivial
          have a2 : True := trivial
          have a3 : True := trivial
          obtain ⟨A1, n1, c1, A3, n2, c2⟩ : Option Addr × Nat × Nat × Option Addr × Nat × Nat := ⟨none, 0, 0, none, 0, 0⟩
          go_region_held3 (fun W' : World => W'.cell? ⟨b, o + i1, none⟩ = some (.int .i64 x))
            (first | (with_reducible exact hK.out _ (Acc.bel a3)) | (with_reducible exact hK.out _ (Acc.bel a2)) | (with_reducible exact hK.out _ (Acc.bel a1)) | (with_reducible exact hK.out _ (bgo (Acc.bel a1) (balloc _ _))) | (with_reducible exact hK.out _ (bgo (bgo (Acc.bel a1) (balloc _ _)) (bdrew _))) | exact hK.out _ (by (repeat (first | exact Below.refl _ _ | (refine bgo ?_ (balloc _ _)) | (refine bgo ?_ (bdrew _)) | (refine bgo ?_ (by assumption))))))
            (first
              | (refine step_appZ (by rfl) (.const (.slice none 0 0)) (.tmp 31) (by rfl) Wd (.slice none 0 0) [] (by rfl) (Acc.nil (by (repeat (first | exact Below.refl _ _ | (refine bgo ?_ (balloc _ _)) | (refine bgo ?_ (bdrew _)) | (refine bgo ?_ (by assumption)))))) (.slice As k cs) (xs.take k) (by rfl) (S1.out _ (by (repeat (first | exact Below.refl _ _ | (refine bgo ?_ (balloc _ _)) | (refine bgo ?_ (bdrew _)) | (refine bgo ?_ (by assumption)))))) (by have := l1.out; simp only [List.length_nil]; omega) ?_; intro v1 w1 a1 b1; obtain ⟨A1, n1, c1, rfl⟩ := a1.shape; replace b1 := b1 rfl)
              | (refine step_appZ (by rfl) (.tmp 32) (.tmp 37) (by rfl) Wd (.slice A1 n1 c1) ([] ++ xs.take k) (by rfl) ?_ (.slice (some ⟨w1.heap.size, 0, none⟩) 1 1) [x] (by rfl) ?_ ?_ ?_; (· (repeat (first | exact a1 | refine Acc.alloc ?_ _ | refine Acc.drew ?_))); (· (repeat (first | (with_reducible refine Lit.drew ?_) | (with_reducible refine Lit.new _ ?_) | (with_reducible refine Lit.below ?_ b1) | (with_reducible refine Lit.alloc ?_ _) | (with_reducible rfl) | (simp; done)))); (· (have := l1.out; have := l2.out; simp only [List.length_append, List.length_cons, List.length_nil]; omega)); intro v2 w2 a2 b2; obtain ⟨A3, n2, c2, rfl⟩ := a2.shape)
              | (refine step_appZ (by rfl) (.tmp 32) (.tmp 37) (by rfl) Wd (.slice A1 n1 c1) ([] ++ xs.take k) (by rfl) ?_ (.slice (some ⟨Wd.heap.size, 0, none⟩) 1 1) [x] (by rfl) ?_ ?_ ?_; (· (repeat (first | exact a1 | refine Acc.alloc ?_ _ | refine Acc.drew ?_))); (· (repeat (first | (with_reducible refine Lit.drew ?_) | (with_reducible refine Lit.new _ ?_) | (with_reducible refine Lit.below ?_ b1) | (with_reducible refine Lit.alloc ?_ _) | (with_reducible rfl) | (simp; done)))); (· (have := l1.out; have := l2.out; simp only [List.length_append, List.length_cons, List.length_nil]; omega)); intro v2 w2 a2 b2; obtain ⟨A3, n2, c2, rfl⟩ := a2.shape)
              | (refine step_appZ (by rfl) (.tmp 38) (.tmp 41) (by rfl) Wd (.slice A3 n2 c2) ([] ++ xs.take k ++ [x]) (by rfl) ?_ (.slice A2 (xs.length - k) (cs - k)) (xs.drop k) (by rfl) ?_ ?_ ?_; (· (repeat (first | exact a2 | refine Acc.alloc ?_ _ | refine Acc.drew ?_))); (· exact S2.out _ (Acc.bel a2)); (· (have := l1.out; have := l2.out; simp only [List.length_append, List.length_cons, List.length_nil]; omega)); intro v3 w3 a3 b3; obtain ⟨A4, n3, c3, rfl⟩ := a3.shape))
          all_goals
            rename_i hHeld
            clear hHeld z0
            have hfin : Hid (Lit w3 (.slice A4 n3 c3) (insI xs k x)) := sort_lit a3
            have hpf : Hid ((insI xs k x).Perm (l.take (i1 + 1))) := insI_perm.trans hpn.out
            have haf : Hid ((insI xs k x).Pairwise (· ≤ ·)) := insI_asc ha.out (fun j y hj hy => Int.le_of_lt (hlo.out j y hj hy)) hgt.out
            have hbf : Hid (Below w.heap.size w w3) := bgo hb.out (Acc.bel a3)
            go_wp2_with fail
            go_roundw
            case rel => exact ⟨i1 + 1, insI xs k x, by omega, by go_num, hfin, hpf, haf, hbf⟩
            case measure => simp [intOf]; omega
    · have i0 : ¬ (i1 : Int) < (l.length : Int) := by omega
      have hie : Hid (i1 = l.length) := by show _ = _; omega
      go_wp2_with fail
      go_returns
      exact sort_done hp.out hie.out ha.out hs.out hb.out
end Go.Proofs.Ytiiaghmdajdbbaa

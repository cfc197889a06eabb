/- Contract of sectimeref01.Write: fields as bytes. Conditions: types and lengths below 65536, at most 65535 bytes in all. -/
import Derived.Test.YtcoehlmeegoofaaGreatWrite
namespace Go.Proofs.YtcoehlmeegoofaaGreat
open Go Go.RowKit
set_option linter.unusedVariables false
set_option linter.unusedSimpArgs false
attribute [local go_sem ↓] Go.wp_at_zero Go.wp_at_succ
set_option maxRecDepth 100000 in
set_option maxHeartbeats 8000000 in
theorem rwrite_any (B : Nat) (u : Value) (ls : List Fd) (w : World) (hu : SeesR w B u 2 ls.length (fdS ls)) (hB : B ≤ w.heap.size) (hok : ∀ f ∈ ls, okF f) (hn : (wrF ls).length ≤ 65535) :
    Calls Tryz.prog 17 #[u] w (WriteP (wrF ls) w) := by
  obtain ⟨A, c, rfl, -, -⟩ := hu.mk_
  have hll := wrF_count ls
  replace hu := Lib.hid hu
  replace hok := Lib.hid hok
  go_enter Tryz.func17, Tryz.ntmps17
  go_wp2_with fail
  refine wp_fresh (fun W => OwnB W w.heap.size (.slice (some ⟨w.heap.size, 0, none⟩) 0 0) [] ∧ Below w.heap.size w W) ⟨own_made w [] (Nat.zero_le _) _ (Nat.le_refl _), (Below.refl _ _).alloc (Nat.le_refl _) _⟩ ?_
  rintro W0 ⟨hW, hbw⟩
  replace hW := Lib.hid hW
  replace hbw := Lib.hid hbw
  go_wp2_with fail
  go_loopw [4, 5] (fun r t wr => ∃ k : Nat, k ≤ ls.length ∧ t = .int .i64 k ∧ Hid (OwnB wr w.heap.size r (wrF (ls.take k))) ∧ Hid (Below w.heap.size w wr)) (fun _ t _ => ls.length - (intOf t).toNat)
  case atStart => exact ⟨0, by omega, rfl, hW, hbw⟩
  case round =>
    clear hW hbw
    obtain ⟨k, hk, rfl, ho, hb⟩ := hrel
    obtain ⟨Ar, cr, rfl, -, -⟩ := ho.out.sees.mk_
    have hle := wrF_le ls k
    by_cases hlt : k < ls.length
    · have hk1 : Hid (k + 1 ≤ ls.length) := hlt
      have i1 : (k : Int) < (ls.length : Int) := by omega
      have i2 : (0 : Int) ≤ (k : Int) := by omega
      obtain ⟨t, ht⟩ : ∃ t, ls[k]? = some t := ⟨_, List.getElem?_eq_getElem hlt⟩
      have hst := Lib.hid (wrF_take ht)
      obtain ⟨b, o, A1, c1, e, hbB, z0, z1, s1⟩ := fd_at (hu.out.below (hb.out.mono hB)) k t ht
      subst e
      obtain ⟨q1, q2⟩ := hok.out t (List.mem_of_getElem? ht)
      obtain ⟨ty, d⟩ := t
      dsimp only at z0 z1 s1 q1 q2
      have j0 : ¬ (ty : Int) < 0 := by omega
      have j1 : ¬ (65535 : Int) < (ty : Int) := by omega
      have j2 : ¬ (65535 : Int) < (d.length : Int) := by omega
      have j3 : ((wrF (ls.take k)).length : Int) ≤ 65535 := by omega
      clear ht
      have hs0 := Lib.hid (s1.more (Nat.le_trans hB hb.out.size))
      have hle2 := Lib.hid hle
      have hn2 := Lib.hid hn
      have hp1 : Hid (∀ W, Calls Tryz.prog 29 #[.int .u64 (ty : Int), .int .i64 2] W (Gives (putB 2 ty) W)) := fun W => rput_any ty 2 (by omega) (by omega) W
      have hp2 : Hid (∀ W, Calls Tryz.prog 29 #[.int .u64 (d.length : Int), .int .i64 2] W (Gives (putB 2 d.length) W)) := fun W => rput_any d.length 2 (by omega) (by omega) W
      have K : Hid (∀ W, Below wr.heap.size wr W → W.cell? ⟨b, o + k * 2, none⟩ = some (.int .i64 (ty : Int)) ∧ W.cell? ⟨b, o + k * 2 + 1, none⟩ = some (.slice A1 d.length c1)) := fun W hW => by
        have hbl : b < wr.heap.size := Nat.lt_of_lt_of_le hbB (Nat.le_trans hB hb.out.size)
        exact ⟨(hW.cell (p := ⟨b, o + k * 2, none⟩) hbl).trans z0, (hW.cell (p := ⟨b, o + k * 2 + 1, none⟩) hbl).trans z1⟩
      have K2 : Hid (∀ W, Below w.heap.size w W → W.cell? ⟨b, o + k * 2, none⟩ = some (.int .i64 (ty : Int)) ∧ W.cell? ⟨b, o + k * 2 + 1, none⟩ = some (.slice A1 d.length c1)) := fun W hW => by
        have hbl : b < w.heap.size := Nat.lt_of_lt_of_le hbB hB
        exact ⟨(hW.cell (p := ⟨b, o + k * 2, none⟩) hbl).trans ((hb.out.cell (p := ⟨b, o + k * 2, none⟩) hbl).symm.trans z0), (hW.cell (p := ⟨b, o + k * 2 + 1, none⟩) hbl).trans ((hb.out.cell (p := ⟨b, o + k * 2 + 1, none⟩) hbl).symm.trans z1)⟩
      have hbX : True := trivial
      have hj : Hid (∀ (W : World) (u1 u2 : Value), Below wr.heap.size wr W → SeesB W W.heap.size u1 (putB 2 ty) → SeesB W W.heap.size u2 (putB 2 d.length) → Calls Tryz.prog 21 #[.slice (some ⟨W.heap.size, 0, none⟩) 3 3] (W.alloc (.cells #[u1, u2, .slice A1 d.length c1] 25)) (Gives (fdB (ty, d)) (W.alloc (.cells #[u1, u2, .slice A1 d.length c1] 25)))) := fun W u1 u2 hW h1 h2 => by
        have hl := seesL_lit W 25 (vs := [u1, u2, .slice A1 d.length c1]) (ls := [putB 2 ty, putB 2 d.length, d]) ⟨h1, h2, seesB_of hs0.out (Nat.le_refl _) hW, trivial⟩ (by simp [maxLen])
        have hf : [putB 2 ty, putB 2 d.length, d].flatten = fdB (ty, d) := by simp [fdB]
        have := rjoin_any _ _ _ _ hl (Nat.le_refl _) (by rw [hf, fdB_len]; show 4 + d.length ≤ _; omega)
        rw [hf] at this
        exact this
      have hlen : Hid ((wrF (ls.take k)).length + (fdB (ty, d)).length ≤ 140737488355328) := by
        show _ ≤ _
        rw [fdB_len]
        show _ + (4 + d.length) ≤ _
        omega
      have n1 : IntKind.u64.wrap (ty : Int) = (ty : Int) := by rw [IntKind.wrap_u64]; omega
      have n2 : IntKind.u64.wrap (d.length : Int) = (d.length : Int) := by rw [IntKind.wrap_u64]; omega
      go_upto_region 10 with (fail)
      go_region_held3 (fun W' : World => W'.cell? ⟨b, o + k * 2, none⟩ = some (.int .i64 (ty : Int)) ∧ W'.cell? ⟨b, o + k * 2 + 1, none⟩ = some (.slice A1 d.length c1))
        (first | (with_reducible exact K2.out _ hbX) | exact K.out _ (by (repeat (first | exact Below.refl _ _ | (refine bgo ?_ (balloc _ _)) | (refine bgo ?_ (bdrew _)) | (refine bgo ?_ (by assumption))))) | (go_keep; done))
        (first
          | (refine step_app (by rfl) (.tmp 37) (.tmp 59) (by rfl) w.heap.size (.slice Ar (wrF (ls.take k)).length cr) (wrF (ls.take k)) (by rfl) ho9.out _ _ (fdB (ty, d)) (by rfl) o9.sees hlen.out hb9w.out.size ?_; intro v' w' hW2 hb4; have hbX := hb9w.out.trans hb4)
          | (go_at_call 29; (with_reducible refine (hp1.out _).mono ?_); rintro e w1 ⟨v1, rfl, o1, hb1⟩; obtain ⟨B1, d1, rfl, -, -⟩ := o1.sees.mk_)
          | (go_at_call 29; (with_reducible refine (hp2.out _).mono ?_); rintro e w2 ⟨v2, rfl, o2, hb2⟩; obtain ⟨B2, d2, rfl, -, -⟩ := o2.sees.mk_)
          | (go_at_call 21; have hc : Below wr.heap.size wr w2 := (by (repeat (first | exact Below.refl _ _ | (refine bgo ?_ (balloc _ _)) | (refine bgo ?_ (bdrew _)) | (refine bgo ?_ (by assumption))))); (with_reducible refine (hj.out w2 _ _ hc (seesB_of o1.sees (Nat.le_refl _) hb2) o2.sees).mono ?_); rintro e w9 ⟨v9, rfl, o9, hb9⟩
             obtain ⟨B9, d9, rfl, -, -⟩ := o9.sees.mk_
             have hbF := Lib.hid (bgo (bgo hc (balloc w2 _)) hb9)
             have ho9 := Lib.hid (ho.out.below hbF.out)
             have hb9w := Lib.hid (bgo hb.out hbF.out)
             have hbX := hb9w.out)
          | (go_at_call 21; have hc : Below wr.heap.size wr w1 := (by (repeat (first | exact Below.refl _ _ | (refine bgo ?_ (balloc _ _)) | (refine bgo ?_ (bdrew _)) | (refine bgo ?_ (by assumption))))); (with_reducible refine (hj.out w1 _ _ hc o1.sees (seesB_of o2.sees (Nat.le_refl _) hb1)).mono ?_); rintro e w9 ⟨v9, rfl, o9, hb9⟩
             obtain ⟨B9, d9, rfl, -, -⟩ := o9.sees.mk_
             have hbF := Lib.hid (bgo (bgo hc (balloc w1 _)) hb9)
             have ho9 := Lib.hid (ho.out.below hbF.out)
             have hb9w := Lib.hid (bgo hb.out hbF.out)
             have hbX := hb9w.out))
      all_goals
        replace hW2 : Hid (OwnB w' w.heap.size v' (wrF (ls.take (k + 1)))) := by show OwnB _ _ _ _; rw [hst.out]; exact hW2
        have hb5 : Hid (Below w.heap.size w w') := hbX
        clear hb4 hbX
        go_wp2_with fail
        go_roundw
        case rel => exact ⟨k + 1, hk1.out, by go_num, hW2, hb5⟩
        case measure => have := hk1.out; simp [intOf]; omega
    · obtain rfl : k = ls.length := by omega
      have i1 : ¬ (ls.length : Int) < (ls.length : Int) := by omega
      rw [List.take_of_length_le (Nat.le_refl _)] at *
      have j3 : ¬ (65535 : Int) < ((wrF ls).length : Int) := by omega
      go_wp2_with fail
      go_returns
      exact ⟨_, rfl, ho.out, hb.out⟩
end Go.Proofs.YtcoehlmeegoofaaGreat

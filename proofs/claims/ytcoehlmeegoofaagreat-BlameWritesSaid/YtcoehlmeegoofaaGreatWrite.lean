/- Contract of octets.Write: fields as bytes. Conditions: types and lengths below 65536, at most 65535 bytes in all. -/
import Derived.Test.YtcoehlmeegoofaaGreatWrF
namespace Go.Proofs.YtcoehlmeegoofaaGreat
open Go Go.RowKit
set_option linter.unusedVariables false
set_option linter.unusedSimpArgs false
attribute [local go_sem ↓] Go.wp_at_zero Go.wp_at_succ
set_option maxRecDepth 100000 in
set_option maxHeartbeats 8000000 in
theorem write_any (B : Nat) (u : Value) (ls : List Fd) (w : World) (hu : SeesR w B u 2 ls.length (fdS ls)) (hB : B ≤ w.heap.size) (hok : ∀ f ∈ ls, okF f) (hn : (wrF ls).length ≤ 65535) :
    Calls Tryz.prog 16 #[u] w (WriteP (wrF ls) w) := by
  obtain ⟨A, c, rfl, -, -⟩ := hu.mk_
  have hll := wrF_count ls
  replace hu := Lib.hid hu
  replace hok := Lib.hid hok
  go_enter Tryz.func16, Tryz.ntmps16
  go_wp2_with fail
  go_loopw [4, 9] (fun r t wr => ∃ k : Nat, k ≤ ls.length ∧ t = .int .i64 k ∧ Hid (OwnB wr w.heap.size r (wrF (ls.take k))) ∧ Hid (Below w.heap.size w wr)) (fun _ t _ => ls.length - (intOf t).toNat)
  case atStart => exact ⟨0, by omega, rfl, World.ownsRow_nil _ _ _ _, Below.refl _ _⟩
  case round =>
    obtain ⟨k, hk, rfl, ho, hb⟩ := hrel
    obtain ⟨Ar, cr, rfl, -, -⟩ := ho.out.sees.mk_
    have hle := wrF_le ls k
    by_cases hlt : k < ls.length
    · have hk1 : Hid (k + 1 ≤ ls.length) := hlt
      have i1 : (k : Int) < (ls.length : Int) := by omega
      have i2 : (0 : Int) ≤ (k : Int) := by omega
      obtain ⟨t, ht⟩ : ∃ t, ls[k]? = some t := ⟨_, List.getElem?_eq_getElem hlt⟩
      have hst := Lib.hid (wrF_take ht)
      obtain ⟨b, o, A1, c1, e, hbB, z0, z1, s1⟩ := fd_at (hu.out.below (hb.out.mono hB)) k t ht
      subst e
      obtain ⟨q1, q2⟩ := hok.out t (List.mem_of_getElem? ht)
      obtain ⟨ty, d⟩ := t
      dsimp only at z0 z1 s1 q1 q2
      have j0 : ¬ (ty : Int) < 0 := by omega
      have j1 : ¬ (65535 : Int) < (ty : Int) := by omega
      have j2 : ¬ (65535 : Int) < (d.length : Int) := by omega
      have j3 : ((wrF (ls.take k)).length : Int) ≤ 65535 := by omega
      clear ht
      have x6 := Box.new wr 46 [.int .i64 (ty : Int), .slice A1 d.length c1]
      change Box (wr.alloc (.cells #[.int .i64 (ty : Int), .slice A1 d.length c1] 46)) _ _ _ at x6
      have hal := balloc wr (.cells #[.int .i64 (ty : Int), .slice A1 d.length c1] 46)
      have ho0 := Lib.hid (ho.out.below hal)
      have hb0 := Lib.hid (bgo hb.out hal)
      have hs0 := Lib.hid (seesB_of (s1.more (Nat.le_trans hB hb.out.size)) (Nat.le_refl _) hal)
      clear hal
      go_upto_region 10 with (fail)
      generalize wr.alloc (.cells #[.int .i64 (ty : Int), .slice A1 d.length c1] 46) = W0 at *
      generalize wr.heap.size = g6 at *
      have hp1 : Hid (∀ W, Calls Tryz.prog 28 #[.int .u64 (ty : Int), .int .i64 2] W (Gives (putB 2 ty) W)) := fun W => put_any ty 2 (by omega) (by omega) W
      have hp2 : Hid (∀ W, Calls Tryz.prog 28 #[.int .u64 (d.length : Int), .int .i64 2] W (Gives (putB 2 d.length) W)) := fun W => put_any d.length 2 (by omega) (by omega) W
      have K : Hid (∀ W, Below W0.heap.size W0 W → W.cell? ⟨g6, 0, none⟩ = some (.int .i64 (ty : Int)) ∧ W.cell? ⟨g6, 1, none⟩ = some (.slice A1 d.length c1)) := fun W hW => ⟨(x6.below hW).cell 0, (x6.below hW).cell 1⟩
      have hj : Hid (∀ (W : World) (u1 u2 : Value), Below W0.heap.size W0 W → SeesB W W.heap.size u1 (putB 2 ty) → SeesB W W.heap.size u2 (putB 2 d.length) → Calls Tryz.prog 27 #[.slice (some ⟨W.heap.size, 0, none⟩) 4 4] (W.alloc (.cells #[.slice Ar (wrF (ls.take k)).length cr, u1, u2, .slice A1 d.length c1] 25)) (Gives (wrF (ls.take k) ++ fdB (ty, d)) (W.alloc (.cells #[.slice Ar (wrF (ls.take k)).length cr, u1, u2, .slice A1 d.length c1] 25)))) := fun W u1 u2 hW h1 h2 => by
        have hl := seesL_lit W 25 (vs := [.slice Ar (wrF (ls.take k)).length cr, u1, u2, .slice A1 d.length c1]) (ls := [wrF (ls.take k), putB 2 ty, putB 2 d.length, d]) ⟨(ho0.out.below hW).sees, h1, h2, seesB_of hs0.out (Nat.le_refl _) hW, trivial⟩ (by simp [maxLen])
        have hf : [wrF (ls.take k), putB 2 ty, putB 2 d.length, d].flatten = wrF (ls.take k) ++ fdB (ty, d) := by simp [fdB]
        have := join_any _ _ _ _ hl (Nat.le_refl _) (by rw [hf, List.length_append, fdB_len]; show _ + (4 + d.length) ≤ _; omega)
        rw [hf] at this
        exact this
      obtain ⟨y0, y1⟩ := K.out W0 (Below.refl _ _)
      have n1 : IntKind.u64.wrap (ty : Int) = (ty : Int) := by rw [IntKind.wrap_u64]; omega
      have n2 : IntKind.u64.wrap (d.length : Int) = (d.length : Int) := by rw [IntKind.wrap_u64]; omega
      go_region_held3 (fun W' : World => W'.cell? ⟨g6, 0, none⟩ = some (.int .i64 (ty : Int)) ∧ W'.cell? ⟨g6, 1, none⟩ = some (.slice A1 d.length c1))
        (first | exact K.out _ (by (repeat (first | exact Below.refl _ _ | (refine bgo ?_ (balloc _ _)) | (refine bgo ?_ (bdrew _)) | (refine bgo ?_ (by assumption))))) | (go_keep; done))
        (first
          | (go_at_call 28; (with_reducible refine (hp1.out _).mono ?_); rintro e w1 ⟨v1, rfl, o1, hb1⟩; obtain ⟨B1, d1, rfl, -, -⟩ := o1.sees.mk_)
          | (go_at_call 28; (with_reducible refine (hp2.out _).mono ?_); rintro e w2 ⟨v2, rfl, o2, hb2⟩; obtain ⟨B2, d2, rfl, -, -⟩ := o2.sees.mk_)
          | (go_at_call 27; have hc : Below W0.heap.size W0 w2 := (by (repeat (first | exact Below.refl _ _ | (refine bgo ?_ (balloc _ _)) | (refine bgo ?_ (bdrew _)) | (refine bgo ?_ (by assumption))))); (with_reducible refine (hj.out w2 _ _ hc (seesB_of o1.sees (Nat.le_refl _) hb2) o2.sees).mono ?_); rintro e w9 ⟨v9, rfl, o9, hb9⟩
             have hbF := Lib.hid (bgo (bgo hc (balloc w2 _)) hb9)
             have hoF := Lib.hid (o9.mono (Nat.le_trans hb0.out.size (bgo hc (balloc w2 _)).size)))
          | (go_at_call 27; have hc : Below W0.heap.size W0 w1 := (by (repeat (first | exact Below.refl _ _ | (refine bgo ?_ (balloc _ _)) | (refine bgo ?_ (bdrew _)) | (refine bgo ?_ (by assumption))))); (with_reducible refine (hj.out w1 _ _ hc o1.sees (seesB_of o2.sees (Nat.le_refl _) hb1)).mono ?_); rintro e w9 ⟨v9, rfl, o9, hb9⟩
             have hbF := Lib.hid (bgo (bgo hc (balloc w1 _)) hb9)
             have hoF := Lib.hid (o9.mono (Nat.le_trans hb0.out.size (bgo hc (balloc w1 _)).size))))
      all_goals
        replace hoF : Hid (OwnB w9 w.heap.size v9 (wrF (ls.take (k + 1)))) := by show OwnB _ _ _ _; rw [hst.out]; exact hoF.out
        replace hbF := Lib.hid (bgo hb0.out hbF.out)
        go_wp2_with fail
        go_roundw
        case rel => exact ⟨k + 1, hk1.out, by go_num, hoF, hbF⟩
        case measure => have := hk1.out; simp [intOf]; omega
    · obtain rfl : k = ls.length := by omega
      have i1 : ¬ (ls.length : Int) < (ls.length : Int) := by omega
      rw [List.take_of_length_le (Nat.le_refl _)] at *
      have j3 : ¬ (65535 : Int) < ((wrF ls).length : Int) := by omega
      go_wp2_with fail
      go_returns
      exact ⟨_, rfl, ho.out, hb.out⟩
end Go.Proofs.YtcoehlmeegoofaaGreat

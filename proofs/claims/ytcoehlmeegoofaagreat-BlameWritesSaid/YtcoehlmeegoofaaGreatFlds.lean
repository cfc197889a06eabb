/- Contract of octets.Fields: the fields of bytes, or an error. Conditions: the bytes are seen, at most 65535. -/
import Derived.Test.YtcoehlmeegoofaaGreatFB
import Derived.Test.YtcoehlmeegoofaaGreatFldP
namespace Go.Proofs.YtcoehlmeegoofaaGreat
open Go Go.RowKit
set_option linter.unusedVariables false
set_option linter.unusedSimpArgs false
attribute [local go_sem ↓] Go.wp_at_zero Go.wp_at_succ
/-- Fields as records. -/
def fdS (l : List Fd) : List Spec := l.flatMap fun f => [.val (.int .i64 (f.1 : Int)), .byt f.2]
theorem fdS_append (a b : List Fd) : fdS (a ++ b) = fdS a ++ fdS b := by simp [fdS]
theorem fdS_len (l : List Fd) : (fdS l).length = l.length * 2 := by
  induction l with
  | nil => rfl
  | cons x l ih => show (fdS l).length + 2 = _; rw [ih, List.length_cons]; omega
def lenOf : Value → Nat
  | .slice _ n _ => n
  | _ => 0
def FieldsQ (e : Ending) (w w' : World) : Option (List Fd) → Prop
  | none => e = .returned (.tuple #[.slice none 0 0, .int .i64 1])
  | some l => ∃ v, e = .returned (.tuple #[v, .int .i64 0]) ∧ OwnRF w' w.heap.size 46 v 2 l.length (fdS l)
def FieldsP (b : Bs) (w : World) (e : Ending) (w' : World) : Prop := ∃ o, FieldsR b o ∧ FieldsQ e w w' o ∧ Below w.heap.size w w'
theorem field_info : (Tryz.prog.info? 46).map (fun i => (i.zero, i.size, i.bytes)) = some (some (.agg #[.int .i64 0, .slice none 0 0]), 2, 32) := by kernel_rfl
theorem field_eltsF {w : World} {base : Nat} {v b : Value} {t : Nat} {d : Bs} (h2 : EltS w v b (.byt d)) (f2 : From base b) : ∀ (k : Nat) (s : Spec), [Spec.val (.int .i64 (t : Int)), .byt d][k]? = some s → ∃ y, [Value.int .i64 (t : Int), b][k]? = some y ∧ EltS w v y s ∧ From base y := by
  intro k s h
  match k, h with
  | 0, h => cases h; exact ⟨_, rfl, ⟨rfl, rfl⟩, fun a n c e => by cases e⟩
  | 1, h => cases h; exact ⟨_, rfl, h2, f2⟩
  | k + 2, h => simp at h
set_option maxRecDepth 100000 in
set_option maxHeartbeats 8000000 in
theorem fields_any (B : Nat) (u : Value) (b : Bs) (w : World) (hu : SeesB w B u b) (hB : B ≤ w.heap.size) (hn : b.length ≤ 65535) :
    Calls Tryz.prog 18 #[u] w (FieldsP b w) := by
  obtain ⟨A, c, rfl, -, -⟩ := hu.mk_
  obtain ⟨ti, hti, htz, hts, htb⟩ := info_parts field_info
  replace hti := Lib.hid hti
  replace htz := Lib.hid htz
  replace hts := Lib.hid hts
  replace htb := Lib.hid htb
  have i0 : ¬ (65535 : Int) < (b.length : Int) := by omega
  go_enter Tryz.func18, Tryz.ntmps18
  go_wp2_with fail
  go_loopw [0, 4] (fun r o wr => ∃ (i : Nat) (out : List Fd), i ≤ b.length ∧ Hid (SeesB wr B r (b.drop i)) ∧ Hid (wrF out = b.take i) ∧ Hid (∀ f ∈ out, okF f) ∧ Hid (OwnRF wr w.heap.size 46 o 2 out.length (fdS out)) ∧ Hid (Below w.heap.size w wr)) (fun r _ _ => lenOf r)
  case atStart => exact ⟨0, [], by omega, hu, rfl, fun f hf => (by cases hf), OwnRF.nil _ _ _ _, Below.refl _ _⟩
  case round =>
    clear i0 hu
    obtain ⟨i, out, hi, hs, hw, hok, ho, hb⟩ := hrel
    have hql : Hid ((b.drop i).length = b.length - i) := List.length_drop
    have hdd : ∀ n, (b.drop i).drop n = b.drop (i + n) := fun n => List.drop_drop
    have hno := Lib.hid (fun (h0 : i < b.length) h => fields_no hok.out hw.out h0 h)
    have hst := Lib.hid (fun h1 h2 => fields_step hok.out hw.out h1 h2)
    have hend := Lib.hid (fun h0 => fields_end hok.out hw.out h0)
    replace hdd := Lib.hid hdd
    generalize b.drop i = q at *
    obtain ⟨Ar, cr, rfl, -, hcm⟩ := hs.out.mk_
    unfold maxLen at hcm
    obtain ⟨Ao, co, rfl, -, -⟩ := ho.out.own.sees.mk_
    by_cases h0 : q.length = 0
    · have i1 : ¬ (0 : Int) < (q.length : Int) := by omega
      have hr := Lib.hid (hend.out (by have := hql.out; omega))
      clear hno hst hend
      go_wp2_with fail
      go_returns
      exact ⟨some out, hr.out, ⟨_, rfl, ho.out⟩, hb.out⟩
    have i1 : (0 : Int) < (q.length : Int) := by omega
    by_cases h4 : q.length < 4
    · have i2 : (q.length : Int) < 4 := by omega
      have hr := Lib.hid (hno.out (by have := hql.out; omega) (.inl (by have := hql.out; omega)))
      clear hno hst hend
      go_wp2_with fail
      go_returns
      exact ⟨none, hr.out, rfl, hb.out⟩
    have i2 : ¬ (q.length : Int) < 4 := by omega
    have hqr : (q.length : Int) ≤ 65535 := by have := hql.out; omega
    have hqc : q.length ≤ cr := by have := hs.out.mk_; obtain ⟨A', c', e, h1, h2⟩ := this; injection e with e1 e2 e3; omega
    obtain ⟨n, hnd⟩ : ∃ n, ndF q = n := ⟨_, rfl⟩
    obtain ⟨ty, hty⟩ : ∃ t, tyF q = t := ⟨_, rfl⟩
    have hn2 := ndF_lt (r := q) (by omega)
    have ht2 := tyF_lt (r := q) (by omega)
    rw [hnd] at hn2 hno hst
    rw [hty] at ht2 hst
    obtain ⟨A2, hA2⟩ : ∃ x, cutA Ar cr 2 1 = x := ⟨_, rfl⟩
    have r24 : ∀ W, (Instr.slice 25 (.slice Ar q.length cr) (some (.int .i64 2)) (some (.int .i64 4)) none).run Tryz.prog W = .ok (.slice A2 2 (cr - 2)) W := fun W => by rw [← hA2]; exact run_cut (P := Tryz.prog) 25 Tryz.underlying25 1 byte_size Ar q.length cr .i64 .i64 2 4 (by omega) (by omega) (by omega) W
    have hg1 : Hid (∀ W, Below wr.heap.size wr W → Calls Tryz.prog 30 #[.slice A2 2 (cr - 2)] W fun e w' => e = .returned (.int .u64 (n : Int)) ∧ w' = W) := fun W hW => by
      rw [← hnd, ← hA2]
      exact get_any B (.slice (cutA Ar cr 2 1) 2 (cr - 2)) ((q.drop 2).take 2) W (SeesB.below (SeesB.cut (a := 2) (b := 4) hs.out (by omega) (by omega)) (hW.mono (Nat.le_trans hB hb.out.size)))
    replace hA2 := Lib.hid hA2
    by_cases hlt : q.length - 4 < n
    · have i3 : (q.length : Int) - 4 < (n : Int) := by omega
      have hr := Lib.hid (hno.out (by have := hql.out; omega) (.inr (by have := hql.out; omega)))
      clear hno hst hend hnd hty
      go_wp2_with fail
      refine (hg1.out wr (Below.refl _ _)).mono ?_
      rintro e w1 ⟨rfl, hw⟩
      obtain rfl := hw.symm
      dsimp only
      go_wp2_with fail
      go_returns
      exact ⟨none, hr.out, rfl, hb.out⟩
    · have i3 : ¬ (q.length : Int) - 4 < (n : Int) := by omega
      obtain ⟨A0, hA0⟩ : ∃ x, cutA Ar cr 0 1 = x := ⟨_, rfl⟩
      obtain ⟨A4, hA4⟩ : ∃ x, cutA Ar cr 4 1 = x := ⟨_, rfl⟩
      obtain ⟨A5, hA5⟩ : ∃ x, cutA Ar cr (4 + n) 1 = x := ⟨_, rfl⟩
      obtain ⟨d, hd⟩ : ∃ x, (q.drop 4).take n = x := ⟨_, rfl⟩
      have hdl : d.length = n := by rw [← hd, List.length_take, List.length_drop]; omega
      have n0 : IntKind.i64.wrap (4 + (n : Int)) = ((4 + n : Nat) : Int) := by rw [IntKind.wrap_i64]; omega
      have r02 : ∀ W, (Instr.slice 25 (.slice Ar q.length cr) none (some (.int .i64 2)) none).run Tryz.prog W = .ok (.slice A0 2 cr) W := fun W => by rw [← hA0]; exact run_cut_to (P := Tryz.prog) 25 Tryz.underlying25 1 byte_size Ar q.length cr .i64 2 (by omega) (by omega) W
      have r4n : ∀ W, (Instr.slice 25 (.slice Ar q.length cr) (some (.int .i64 4)) (some (.int .i64 (4 + (n : Int)))) none).run Tryz.prog W = .ok (.slice A4 n (cr - 4)) W := fun W => by
        have := run_cut (P := Tryz.prog) 25 Tryz.underlying25 1 byte_size Ar q.length cr .i64 .i64 4 (4 + (n : Int)) (by omega) (by omega) (by omega) W
        rw [show (4 + (n : Int)).toNat - (4 : Int).toNat = n from by omega] at this
        rw [← hA4]; exact this
      have r5n : ∀ W, (Instr.slice 25 (.slice Ar q.length cr) (some (.int .i64 (4 + (n : Int)))) none none).run Tryz.prog W = .ok (.slice A5 (q.length - (4 + n)) (cr - (4 + n))) W := fun W => by
        have := run_cut_from (P := Tryz.prog) 25 Tryz.underlying25 1 byte_size Ar q.length cr .i64 (4 + (n : Int)) (by omega) (by omega) W
        rw [show (4 + (n : Int)).toNat = 4 + n from by omega] at this
        rw [← hA5]; exact this
      have hg2 : Hid (∀ W, Below wr.heap.size wr W → Calls Tryz.prog 30 #[.slice A0 2 cr] W fun e w' => e = .returned (.int .u64 (ty : Int)) ∧ w' = W) := fun W hW => by
        rw [← hty, ← hA0]
        exact get_any B (.slice (cutA Ar cr 0 1) 2 cr) (q.take 2) W (SeesB.below (SeesB.cut (a := 0) (b := 2) hs.out (by omega) (by omega)) (hW.mono (Nat.le_trans hB hb.out.size)))
      have hcl : Hid (∀ W, Below wr.heap.size wr W → Calls Tryz.prog 31 #[.slice A4 n (cr - 4)] W (Gives d W)) := fun W hW => by
        rw [← hd, ← hA4]
        have hc := SeesB.cut (a := 4) (b := 4 + n) hs.out (by omega) (by omega)
        rw [show 4 + n - 4 = n from by omega] at hc
        exact clone_any B _ _ W (SeesB.below hc (hW.mono (Nat.le_trans hB hb.out.size))) (Nat.le_trans hB (Nat.le_trans hb.out.size hW.size)) (by rw [List.length_take]; omega)
      have hsn : Hid (SeesB wr B (.slice A5 (q.length - (4 + n)) (cr - (4 + n))) (b.drop (i + 4 + n))) := by
        have hc := SeesB.cut (a := 4 + n) (b := q.length) hs.out (by omega) (Nat.le_refl _)
        rw [List.take_of_length_le (by rw [List.length_drop]; exact Nat.le_refl _), hdd.out, hA5, ← Nat.add_assoc] at hc
        exact hc
      rw [hd] at hst
      obtain ⟨k1, k2⟩ := hst.out (by have := hql.out; omega) (by have := hql.out; omega)
      replace k1 := Lib.hid k1
      replace k2 := Lib.hid k2
      have hin : Hid (i + 4 + n ≤ b.length) := by show _ ≤ _; have := hql.out; omega
      have hol : Hid (out.length + 1 ≤ 1048576) := by
        show _ ≤ _
        have h1 : ∀ l : List Fd, 4 * l.length ≤ (wrF l).length := fun l => by
          induction l with
          | nil => exact Nat.le_refl _
          | cons x l ih => rw [wrF_cons, List.length_append, fdB_len, List.length_cons]; omega
        have h2 := h1 out
        rw [hw.out, List.length_take] at h2
        omega
      have hlo : Hid (∀ j, (Value.slice Ao out.length co).ownBlock = some j → j < wr.heap.size) := fun j hj => (ho.out.own.lt j hj).2
      have n1 : IntKind.i64.wrap (ty : Int) = (ty : Int) := by rw [IntKind.wrap_i64]; omega
      replace hdl := Lib.hid hdl
      replace hd := Lib.hid hd
      replace hA0 := Lib.hid hA0
      replace hA4 := Lib.hid hA4
      replace hA5 := Lib.hid hA5
      replace hnd := Lib.hid hnd
      replace hty := Lib.hid hty
      clear hno hst hend
      go_upto_region 7 with (fail)
      go_wp2_with fail
      refine (hg1.out wr (Below.refl _ _)).mono ?_
      rintro e w1 ⟨rfl, hw1⟩
      obtain rfl := hw1.symm
      dsimp only
      go_upto_region 10 with (fail)
      go_region_held3 (fun W' : World => True) (trivial)
        (first
          | (refine step_appRF (by rfl) (.tmp 24) (.tmp 35) 44 46 Tryz.underlying44 (by rfl) ti (.agg #[.int .i64 0, .slice none 0 0]) 2 32 hti.out htz.out hts.out htb.out (by rfl) (by omega) (by omega) w.heap.size (.slice Ao out.length co) out.length (fdS out) (by rfl) ho2.out (w8.heap.size + 1) (.slice (some ⟨w8.heap.size, 0, none⟩) 1 1) 1 [.int .i64 (ty : Int), .slice B2 d.length d2] [.val (.int .i64 (ty : Int)), .byt d] (by rfl) hrec.out (by rfl) hel.out hol.out hb3.out.size ?_; intro v' w' hW2 hb4 hg4)
          | (go_at_call 31; (with_reducible refine (hcl.out wr.drew (bdrew wr)).mono ?_); rintro e w8 ⟨v8, rfl, o8, hb8⟩
             obtain ⟨B2, d2, rfl, -, -⟩ := o8.sees.mk_
             have hb08 := bgo (bdrew wr) hb8
             have hal := balloc w8 (.cells #[.int .i64 (ty : Int), .slice B2 d.length d2] 46)
             have hrec : Hid (Sees (w8.alloc (.cells #[.int .i64 (ty : Int), .slice B2 d.length d2] 46)) (w8.heap.size + 1) (.slice (some ⟨w8.heap.size, 0, none⟩) 1 1) 2 1 [.int .i64 (ty : Int), .slice B2 d.length d2]) := rec_lit w8 46 [.int .i64 (ty : Int), .slice B2 d.length d2]
             have ho2 := Lib.hid (ho.out.below (bgo hb08 hal))
             have hel := Lib.hid (field_eltsF (base := w.heap.size) (t := ty) (EltS.of_from (v := .slice Ao out.length co) (seesB_of o8.sees (Nat.le_refl _) hal) (o8.from.mono (bdrew wr).size) hlo.out) (o8.from.mono (Nat.le_trans hb.out.size (bdrew wr).size)))
             have hb3 := Lib.hid (bgo (bgo hb.out hb08) hal)
             have hbW := Lib.hid (bgo hb08 hal)
             clear hal)
          | (go_at_call 31; (with_reducible refine (hcl.out wr (Below.refl _ _)).mono ?_); rintro e w8 ⟨v8, rfl, o8, hb8⟩
             obtain ⟨B2, d2, rfl, -, -⟩ := o8.sees.mk_
             have hb08 := hb8
             have hal := balloc w8 (.cells #[.int .i64 (ty : Int), .slice B2 d.length d2] 46)
             have hrec : Hid (Sees (w8.alloc (.cells #[.int .i64 (ty : Int), .slice B2 d.length d2] 46)) (w8.heap.size + 1) (.slice (some ⟨w8.heap.size, 0, none⟩) 1 1) 2 1 [.int .i64 (ty : Int), .slice B2 d.length d2]) := rec_lit w8 46 [.int .i64 (ty : Int), .slice B2 d.length d2]
             have ho2 := Lib.hid (ho.out.below (bgo hb08 hal))
             have hel := Lib.hid (field_eltsF (base := w.heap.size) (t := ty) (EltS.of_from (v := .slice Ao out.length co) (seesB_of o8.sees (Nat.le_refl _) hal) o8.from hlo.out) (o8.from.mono hb.out.size))
             have hb3 := Lib.hid (bgo (bgo hb.out hb08) hal)
             have hbW := Lib.hid (bgo hb08 hal)
             clear hal)
          | (go_at_call 30; (with_reducible refine (hg2.out _ (by (repeat (first | exact Below.refl _ _ | (refine bgo ?_ (balloc _ _)) | (refine bgo ?_ (bdrew _)) | (refine bgo ?_ (by assumption)))))).mono ?_); rintro e w7 ⟨rfl, hw7⟩
             obtain rfl := hw7.symm))
      all_goals
        replace hW2 : Hid (OwnRF w' w.heap.size 46 v' 2 (out ++ [(ty, d)]).length (fdS (out ++ [(ty, d)]))) := by
          show OwnRF _ _ _ _ _ _ _
          rw [List.length_append, fdS_append]; exact hW2
        have hb5 := Lib.hid (hb3.out.trans hb4)
        have hsn2 := Lib.hid (SeesB.below hsn.out ((hbW.out.mono (Nat.le_trans hB hb.out.size)).trans (hb4.mono hB)))
        clear hb4 hg4
        go_wp2_with fail
        go_roundw
        case rel => exact ⟨i + 4 + n, out ++ [(ty, d)], hin.out, hsn2, k2, k1, hW2, hb5⟩
        case measure => show q.length - (4 + n) < q.length; omega
end Go.Proofs.YtcoehlmeegoofaaGreat

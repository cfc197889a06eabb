/- What a law leans on beyond the base: contracts, plain functions, walks. Conditions: those of each theorem. -/
import Derived.Test.YtgehkgjllhkhoaaGreatMProofA
import Derived.Shelf.RegionOpen
import Derived.Sort.CutIn
import Derived.RangeFuncNested
import Derived.Maps.OwnIn
import Derived.Deep.AppendLies
import Derived.Deep.CutBlock
set_option linter.unusedVariables false
set_option linter.unusedSimpArgs false
namespace Go.Proofs.YtgehkgjllhkhoaaGreat
open Go Go.RowKit
set_option linter.unusedVariables false
set_option linter.unusedSimpArgs false
attribute [local go_sem ↓] Go.wp_at_zero Go.wp_at_succ
def fdS (l : List Fd) : List Spec := l.flatMap fun f => [.val (.int .i64 (f.1 : Int)), .byt f.2]
theorem fdS_append (a b : List Fd) : fdS (a ++ b) = fdS a ++ fdS b := by simp [fdS]
theorem fdS_len (l : List Fd) : (fdS l).length = l.length * 2 := by
 induction l with
 | nil => rfl
 | cons x l ih => show (fdS l).length + 2 = _; rw [ih, List.length_cons]; omega
def lenOf : Value → Nat
 | .slice _ n _ => n
 | _ => 0
def FieldsQ (e : Ending) (w w' : World) : Option (List Fd) → Prop
 | none => e = .returned (.tuple #[.slice none 0 0, .int .i64 1])
 | some l => ∃ v, e = .returned (.tuple #[v, .int .i64 0]) ∧ OwnRF w' w.heap.size 113 v 2 l.length (fdS l)
def FieldsP (b : Bs) (w : World) (e : Ending) (w' : World) : Prop := ∃ o, FieldsR b o ∧ FieldsQ e w w' o ∧ Below w.heap.size w w'
theorem field_info : (Tryz.prog.info? 113).map (fun i => (i.zero, i.size, i.bytes)) = some (some (.agg #[.int .i64 0, .slice none 0 0]), 2, 32) := by kernel_rfl
theorem field_eltsF {w : World} {base : Nat} {v b : Value} {t : Nat} {d : Bs} (h2 : EltS w v b (.byt d)) (f2 : From base b) : ∀ (k : Nat) (s : Spec), [Spec.val (.int .i64 (t : Int)), .byt d][k]? = some s → ∃ y, [Value.int .i64 (t : Int), b][k]? = some y ∧ EltS w v y s ∧ From base y := by
 intro k s h
 match k, h with
 | 0, h => cases h; exact ⟨_, rfl, ⟨rfl, rfl⟩, fun a n c e => by cases e⟩
 | 1, h => cases h; exact ⟨_, rfl, h2, f2⟩
 | k + 2, h => simp at h
set_option maxRecDepth 100000 in
set_option maxHeartbeats 8000000 in
theorem fields_any (B : Nat) (u : Value) (b : Bs) (w : World) (hu : SeesB w B u b) (hB : B ≤ w.heap.size) (hn : b.length ≤ 65535) :
 Calls Tryz.prog 70 #[u] w (FieldsP b w) := by
 obtain ⟨A, c, rfl, -, -⟩ := hu.mk_
 obtain ⟨ti, hti, htz, hts, htb⟩ := info_parts field_info
 replace hti := Lib.hid hti
 replace htz := Lib.hid htz
 replace hts := Lib.hid hts
 replace htb := Lib.hid htb
 have i0 : ¬ (65535 : Int) < (b.length : Int) := by omega
 go_enter Tryz.func70, Tryz.ntmps70
 go_wp2_with fail
 go_loopw [0, 4] (fun r o wr => ∃ (i : Nat) (out : List Fd), i ≤ b.length ∧ Hid (SeesB wr B r (b.drop i)) ∧ Hid (wrF out = b.take i) ∧ Hid (∀ f ∈ out, okF f) ∧ Hid (OwnRF wr w.heap.size 113 o 2 out.length (fdS out)) ∧ Hid (Below w.heap.size w wr)) (fun r _ _ => lenOf r)
 case atStart => exact ⟨0, [], by omega, hu, rfl, fun f hf => (by cases hf), OwnRF.nil _ _ _ _, Below.refl _ _⟩
 case round =>
  clear i0 hu
  obtain ⟨i, out, hi, hs, hw, hok, ho, hb⟩ := hrel
  have hql : Hid ((b.drop i).length = b.length - i) := List.length_drop
  have hdd : ∀ n, (b.drop i).drop n = b.drop (i + n) := fun n => List.drop_drop
  have hno := Lib.hid (fun (h0 : i < b.length) h => fields_no hok.out hw.out h0 h)
  have hst := Lib.hid (fun h1 h2 => fields_step hok.out hw.out h1 h2)
  have hend := Lib.hid (fun h0 => fields_end hok.out hw.out h0)
  replace hdd := Lib.hid hdd
  generalize b.drop i = q at *
  obtain ⟨Ar, cr, rfl, -, hcm⟩ := hs.out.mk_
  unfold maxLen at hcm
  obtain ⟨Ao, co, rfl, -, -⟩ := ho.out.own.sees.mk_
  by_cases h0 : q.length = 0
  · have i1 : ¬ (0 : Int) < (q.length : Int) := by omega
    have hr := Lib.hid (hend.out (by have := hql.out; omega))
    clear hno hst hend
    go_wp2_with fail
    go_returns
    exact ⟨some out, hr.out, ⟨_, rfl, ho.out⟩, hb.out⟩
  have i1 : (0 : Int) < (q.length : Int) := by omega
  by_cases h4 : q.length < 4
  · have i2 : (q.length : Int) < 4 := by omega
    have hr := Lib.hid (hno.out (by have := hql.out; omega) (.inl (by have := hql.out; omega)))
    clear hno hst hend
    go_wp2_with fail
    go_returns
    exact ⟨none, hr.out, rfl, hb.out⟩
  have i2 : ¬ (q.length : Int) < 4 := by omega
  have hqr : (q.length : Int) ≤ 65535 := by have := hql.out; omega
  have hqc : q.length ≤ cr := by have := hs.out.mk_; obtain ⟨A', c', e, h1, h2⟩ := this; injection e with e1 e2 e3; omega
  obtain ⟨n, hnd⟩ : ∃ n, ndF q = n := ⟨_, rfl⟩
  obtain ⟨ty, hty⟩ : ∃ t, tyF q = t := ⟨_, rfl⟩
  have hn2 := ndF_lt (r := q) (by omega)
  have ht2 := tyF_lt (r := q) (by omega)
  rw [hnd] at hn2 hno hst
  rw [hty] at ht2 hst
  obtain ⟨A2, hA2⟩ : ∃ x, cutA Ar cr 2 1 = x := ⟨_, rfl⟩
  have r24 : ∀ W, (Instr.slice 34 (.slice Ar q.length cr) (some (.int .i64 2)) (some (.int .i64 4)) none).run Tryz.prog W = .ok (.slice A2 2 (cr - 2)) W := fun W => by rw [← hA2]; exact run_cut (P := Tryz.prog) 34 Tryz.underlying34 1 byte_size Ar q.length cr .i64 .i64 2 4 (by omega) (by omega) (by omega) W
  have hg1 : Hid (∀ W, Below wr.heap.size wr W → Calls Tryz.prog 134 #[.slice A2 2 (cr - 2)] W fun e w' => e = .returned (.int .u64 (n : Int)) ∧ w' = W) := fun W hW => by
   rw [← hnd, ← hA2]
   exact get_any B (.slice (cutA Ar cr 2 1) 2 (cr - 2)) ((q.drop 2).take 2) W (SeesB.below (SeesB.cut (a := 2) (b := 4) hs.out (by omega) (by omega)) (hW.mono (Nat.le_trans hB hb.out.size)))
  replace hA2 := Lib.hid hA2
  by_cases hlt : q.length - 4 < n
  · have i3 : (q.length : Int) - 4 < (n : Int) := by omega
    have hr := Lib.hid (hno.out (by have := hql.out; omega) (.inr (by have := hql.out; omega)))
    clear hno hst hend hnd hty
    go_wp2_with fail
    refine (hg1.out wr (Below.refl _ _)).mono ?_
    rintro e w1 ⟨rfl, hw⟩
    obtain rfl := hw.symm
    dsimp only
    go_wp2_with fail
    go_returns
    exact ⟨none, hr.out, rfl, hb.out⟩
  · have i3 : ¬ (q.length : Int) - 4 < (n : Int) := by omega
    obtain ⟨A0, hA0⟩ : ∃ x, cutA Ar cr 0 1 = x := ⟨_, rfl⟩
    obtain ⟨A4, hA4⟩ : ∃ x, cutA Ar cr 4 1 = x := ⟨_, rfl⟩
    obtain ⟨A5, hA5⟩ : ∃ x, cutA Ar cr (4 + n) 1 = x := ⟨_, rfl⟩
    obtain ⟨d, hd⟩ : ∃ x, (q.drop 4).take n = x := ⟨_, rfl⟩
    have hdl : d.length = n := by rw [← hd, List.length_take, List.length_drop]; omega
    have n0 : IntKind.i64.wrap (4 + (n : Int)) = ((4 + n : Nat) : Int) := by rw [IntKind.wrap_i64]; omega
    have r02 : ∀ W, (Instr.slice 34 (.slice Ar q.length cr) none (some (.int .i64 2)) none).run Tryz.prog W = .ok (.slice A0 2 cr) W := fun W => by rw [← hA0]; exact run_cut_to (P := Tryz.prog) 34 Tryz.underlying34 1 byte_size Ar q.length cr .i64 2 (by omega) (by omega) W
    have r4n : ∀ W, (Instr.slice 34 (.slice Ar q.length cr) (some (.int .i64 4)) (some (.int .i64 (4 + (n : Int)))) none).run Tryz.prog W = .ok (.slice A4 n (cr - 4)) W := fun W => by
     have := run_cut (P := Tryz.prog) 34 Tryz.underlying34 1 byte_size Ar q.length cr .i64 .i64 4 (4 + (n : Int)) (by omega) (by omega) (by omega) W
     rw [show (4 + (n : Int)).toNat - (4 : Int).toNat = n from by omega] at this
     rw [← hA4]; exact this
    have r5n : ∀ W, (Instr.slice 34 (.slice Ar q.length cr) (some (.int .i64 (4 + (n : Int)))) none none).run Tryz.prog W = .ok (.slice A5 (q.length - (4 + n)) (cr - (4 + n))) W := fun W => by
     have := run_cut_from (P := Tryz.prog) 34 Tryz.underlying34 1 byte_size Ar q.length cr .i64 (4 + (n : Int)) (by omega) (by omega) W
     rw [show (4 + (n : Int)).toNat = 4 + n from by omega] at this
     rw [← hA5]; exact this
    have hg2 : Hid (∀ W, Below wr.heap.size wr W → Calls Tryz.prog 134 #[.slice A0 2 cr] W fun e w' => e = .returned (.int .u64 (ty : Int)) ∧ w' = W) := fun W hW => by
     rw [← hty, ← hA0]
     exact get_any B (.slice (cutA Ar cr 0 1) 2 cr) (q.take 2) W (SeesB.below (SeesB.cut (a := 0) (b := 2) hs.out (by omega) (by omega)) (hW.mono (Nat.le_trans hB hb.out.size)))
    have hcl : Hid (∀ W, Below wr.heap.size wr W → Calls Tryz.prog 135 #[.slice A4 n (cr - 4)] W (Gives d W)) := fun W hW => by
     rw [← hd, ← hA4]
     have hc := SeesB.cut (a := 4) (b := 4 + n) hs.out (by omega) (by omega)
     rw [show 4 + n - 4 = n from by omega] at hc
     exact clone_any B _ _ W (SeesB.below hc (hW.mono (Nat.le_trans hB hb.out.size))) (Nat.le_trans hB (Nat.le_trans hb.out.size hW.size)) (by rw [List.length_take]; omega)
    have hsn : Hid (SeesB wr B (.slice A5 (q.length - (4 + n)) (cr - (4 + n))) (b.drop (i + 4 + n))) := by
     have hc := SeesB.cut (a := 4 + n) (b := q.length) hs.out (by omega) (Nat.le_refl _)
     rw [List.take_of_length_le (by rw [List.length_drop]; exact Nat.le_refl _), hdd.out, hA5, ← Nat.add_assoc] at hc
     exact hc
    rw [hd] at hst
    obtain ⟨k1, k2⟩ := hst.out (by have := hql.out; omega) (by have := hql.out; omega)
    replace k1 := Lib.hid k1
    replace k2 := Lib.hid k2
    have hin : Hid (i + 4 + n ≤ b.length) := by show _ ≤ _; have := hql.out; omega
    have hol : Hid (out.length + 1 ≤ 1048576) := by
     show _ ≤ _
     have h1 : ∀ l : List Fd, 4 * l.length ≤ (wrF l).length := fun l => by
      induction l with
      | nil => exact Nat.le_refl _
      | cons x l ih => rw [wrF_cons, List.length_append, fdB_len, List.length_cons]; omega
     have h2 := h1 out
     rw [hw.out, List.length_take] at h2
     omega
    have hlo : Hid (∀ j, (Value.slice Ao out.length co).ownBlock = some j → j < wr.heap.size) := fun j hj => (ho.out.own.lt j hj).2
    have n1 : IntKind.i64.wrap (ty : Int) = (ty : Int) := by rw [IntKind.wrap_i64]; omega
    replace hdl := Lib.hid hdl
    replace hd := Lib.hid hd
    replace hA0 := Lib.hid hA0
    replace hA4 := Lib.hid hA4
    replace hA5 := Lib.hid hA5
    replace hnd := Lib.hid hnd
    replace hty := Lib.hid hty
    clear hno hst hend
    go_upto_region 7 with (fail)
    go_wp2_with fail
    refine (hg1.out wr (Below.refl _ _)).mono ?_
    rintro e w1 ⟨rfl, hw1⟩
    obtain rfl := hw1.symm
    dsimp only
    go_upto_region 10 with (fail)
    go_region_held3 (fun W' : World => True) (trivial)
     (first
      | (refine step_appRF (by rfl) (.tmp 24) (.tmp 35) 111 113 Tryz.underlying111 (by rfl) ti (.agg #[.int .i64 0, .slice none 0 0]) 2 32 hti.out htz.out hts.out htb.out (by rfl) (by omega) (by omega) w.heap.size (.slice Ao out.length co) out.length (fdS out) (by rfl) ho2.out (w8.heap.size + 1) (.slice (some ⟨w8.heap.size, 0, none⟩) 1 1) 1 [.int .i64 (ty : Int), .slice B2 d.length d2] [.val (.int .i64 (ty : Int)), .byt d] (by rfl) hrec.out (by rfl) hel.out hol.out hb3.out.size ?_; intro v' w' hW2 hb4 hg4)
      | (go_at_call 135; (with_reducible refine (hcl.out wr.drew (bdrew wr)).mono ?_); rintro e w8 ⟨v8, rfl, o8, hb8⟩
         obtain ⟨B2, d2, rfl, -, -⟩ := o8.sees.mk_
         have hb08 := bgo (bdrew wr) hb8
         have hal := balloc w8 (.cells #[.int .i64 (ty : Int), .slice B2 d.length d2] 113)
         have hrec : Hid (Sees (w8.alloc (.cells #[.int .i64 (ty : Int), .slice B2 d.length d2] 113)) (w8.heap.size + 1) (.slice (some ⟨w8.heap.size, 0, none⟩) 1 1) 2 1 [.int .i64 (ty : Int), .slice B2 d.length d2]) := rec_lit w8 113 [.int .i64 (ty : Int), .slice B2 d.length d2]
         have ho2 := Lib.hid (ho.out.below (bgo hb08 hal))
         have hel := Lib.hid (field_eltsF (base := w.heap.size) (t := ty) (EltS.of_from (v := .slice Ao out.length co) (seesB_of o8.sees (Nat.le_refl _) hal) (o8.from.mono (bdrew wr).size) hlo.out) (o8.from.mono (Nat.le_trans hb.out.size (bdrew wr).size)))
         have hb3 := Lib.hid (bgo (bgo hb.out hb08) hal)
         have hbW := Lib.hid (bgo hb08 hal)
         clear hal)
      | (go_at_call 135; (with_reducible refine (hcl.out wr (Below.refl _ _)).mono ?_); rintro e w8 ⟨v8, rfl, o8, hb8⟩
         obtain ⟨B2, d2, rfl, -, -⟩ := o8.sees.mk_
         have hb08 := hb8
         have hal := balloc w8 (.cells #[.int .i64 (ty : Int), .slice B2 d.length d2] 113)
         have hrec : Hid (Sees (w8.alloc (.cells #[.int .i64 (ty : Int), .slice B2 d.length d2] 113)) (w8.heap.size + 1) (.slice (some ⟨w8.heap.size, 0, none⟩) 1 1) 2 1 [.int .i64 (ty : Int), .slice B2 d.length d2]) := rec_lit w8 113 [.int .i64 (ty : Int), .slice B2 d.length d2]
         have ho2 := Lib.hid (ho.out.below (bgo hb08 hal))
         have hel := Lib.hid (field_eltsF (base := w.heap.size) (t := ty) (EltS.of_from (v := .slice Ao out.length co) (seesB_of o8.sees (Nat.le_refl _) hal) o8.from hlo.out) (o8.from.mono hb.out.size))
         have hb3 := Lib.hid (bgo (bgo hb.out hb08) hal)
         have hbW := Lib.hid (bgo hb08 hal)
         clear hal)
      | (go_at_call 134; (with_reducible refine (hg2.out _ (by (repeat (first | exact Below.refl _ _ | (refine bgo ?_ (balloc _ _)) | (refine bgo ?_ (bdrew _)) | (refine bgo ?_ (by assumption)))))).mono ?_); rintro e w7 ⟨rfl, hw7⟩
         obtain rfl := hw7.symm))
    all_goals
     replace hW2 : Hid (OwnRF w' w.heap.size 113 v' 2 (out ++ [(ty, d)]).length (fdS (out ++ [(ty, d)]))) := by
      show OwnRF _ _ _ _ _ _ _
      rw [List.length_append, fdS_append]; exact hW2
     have hb5 := Lib.hid (hb3.out.trans hb4)
     have hsn2 := Lib.hid (SeesB.below hsn.out ((hbW.out.mono (Nat.le_trans hB hb.out.size)).trans (hb4.mono hB)))
     clear hb4 hg4
     go_wp2_with fail
     go_roundw
     case rel => exact ⟨i + 4 + n, out ++ [(ty, d)], hin.out, hsn2, k2, k1, hW2, hb5⟩
     case measure => show q.length - (4 + n) < q.length; omega
theorem fdS_get (ls : List Fd) : ∀ (k : Nat) (t : Fd), ls[k]? = some t → (fdS ls)[k * 2]? = some (.val (.int .i64 (t.1 : Int))) ∧ (fdS ls)[k * 2 + 1]? = some (.byt t.2) := by
 induction ls with
 | nil => intro k t h; simp at h
 | cons a r ih =>
   intro k t h
   cases k with
   | zero => simp at h; subst h; exact ⟨rfl, rfl⟩
   | succ k =>
     rw [List.getElem?_cons_succ] at h
     obtain ⟨h1, h2⟩ := ih k t h
     rw [show (k + 1) * 2 = k * 2 + 2 by omega, show k * 2 + 2 + 1 = k * 2 + 1 + 2 by omega]
     exact ⟨h1, h2⟩
theorem fd_at {w : World} {B n c : Nat} {A : Option Addr} {ls : List Fd} (h : SeesR w B (.slice A n c) 2 n (fdS ls)) (k : Nat) (t : Fd) (hk : ls[k]? = some t) :
 ∃ b o A1 c1, A = some ⟨b, o, none⟩ ∧ b < B ∧ w.cell? ⟨b, o + k * 2, none⟩ = some (.int .i64 (t.1 : Int)) ∧ w.cell? ⟨b, o + k * 2 + 1, none⟩ = some (.slice A1 t.2.length c1) ∧ SeesB w B (.slice A1 t.2.length c1) t.2 := by
 have hl := h.1
 rw [fdS_len] at hl
 have hkl := (List.getElem?_eq_some_iff.1 hk).1
 obtain ⟨b, o, e, hb, hc⟩ := h.at_ (by omega)
 obtain ⟨g1, g2⟩ := fdS_get ls k t hk
 obtain ⟨u1, d1, f1⟩ := hc _ _ g1
 obtain ⟨u2, d2, f2⟩ := hc _ _ g2
 have f2 : SeesB w B u2 t.2 := f2
 obtain ⟨rfl, -⟩ := f1
 obtain ⟨A1, c1, rfl, -, -⟩ := f2.mk_
 exact ⟨b, o, A1, c1, e, hb, d1, by rw [Nat.add_assoc]; exact d2, f2⟩
theorem wrF_take {l : List Fd} {k : Nat} {t : Fd} (h : l[k]? = some t) : wrF (l.take (k + 1)) = wrF (l.take k) ++ fdB t := by
 rw [List.take_add_one, wrF_append, h]
 show _ ++ wrF [t] = _
 rw [wrF_one]
theorem wrF_le (l : List Fd) (k : Nat) : (wrF (l.take k)).length ≤ (wrF l).length := by
 conv => rhs; rw [← List.take_append_drop k l, wrF_append, List.length_append]
 omega
theorem wrF_count (l : List Fd) : 4 * l.length ≤ (wrF l).length := by
 induction l with
 | nil => exact Nat.le_refl _
 | cons x l ih => rw [wrF_cons, List.length_append, fdB_len, List.length_cons]; omega
def WriteP (b : Bs) (w : World) (e : Ending) (w' : World) : Prop := ∃ v, e = .returned (.tuple #[v, .int .i64 0]) ∧ OwnB w' w.heap.size v b ∧ Below w.heap.size w w'
set_option maxRecDepth 100000 in
set_option maxHeartbeats 8000000 in
theorem write_any (B : Nat) (u : Value) (ls : List Fd) (w : World) (hu : SeesR w B u 2 ls.length (fdS ls)) (hB : B ≤ w.heap.size) (hok : ∀ f ∈ ls, okF f) (hn : (wrF ls).length ≤ 65535) :
 Calls Tryz.prog 69 #[u] w (WriteP (wrF ls) w) := by
 obtain ⟨A, c, rfl, -, -⟩ := hu.mk_
 have hll := wrF_count ls
 replace hu := Lib.hid hu
 replace hok := Lib.hid hok
 go_enter Tryz.func69, Tryz.ntmps69
 go_wp2_with fail
 go_loopw [4, 9] (fun r t wr => ∃ k : Nat, k ≤ ls.length ∧ t = .int .i64 k ∧ Hid (OwnB wr w.heap.size r (wrF (ls.take k))) ∧ Hid (Below w.heap.size w wr)) (fun _ t _ => ls.length - (intOf t).toNat)
 case atStart => exact ⟨0, by omega, rfl, World.ownsRow_nil _ _ _ _, Below.refl _ _⟩
 case round =>
  obtain ⟨k, hk, rfl, ho, hb⟩ := hrel
  obtain ⟨Ar, cr, rfl, -, -⟩ := ho.out.sees.mk_
  have hle := wrF_le ls k
  by_cases hlt : k < ls.length
  · have hk1 : Hid (k + 1 ≤ ls.length) := hlt
    have i1 : (k : Int) < (ls.length : Int) := by omega
    have i2 : (0 : Int) ≤ (k : Int) := by omega
    obtain ⟨t, ht⟩ : ∃ t, ls[k]? = some t := ⟨_, List.getElem?_eq_getElem hlt⟩
    have hst := Lib.hid (wrF_take ht)
    obtain ⟨b, o, A1, c1, e, hbB, z0, z1, s1⟩ := fd_at (hu.out.below (hb.out.mono hB)) k t ht
    subst e
    obtain ⟨q1, q2⟩ := hok.out t (List.mem_of_getElem? ht)
    obtain ⟨ty, d⟩ := t
    dsimp only at z0 z1 s1 q1 q2
    have j0 : ¬ (ty : Int) < 0 := by omega
    have j1 : ¬ (65535 : Int) < (ty : Int) := by omega
    have j2 : ¬ (65535 : Int) < (d.length : Int) := by omega
    have j3 : ((wrF (ls.take k)).length : Int) ≤ 65535 := by omega
    clear ht
    have x6 := Box.new wr 113 [.int .i64 (ty : Int), .slice A1 d.length c1]
    change Box (wr.alloc (.cells #[.int .i64 (ty : Int), .slice A1 d.length c1] 113)) _ _ _ at x6
    have hal := balloc wr (.cells #[.int .i64 (ty : Int), .slice A1 d.length c1] 113)
    have ho0 := Lib.hid (ho.out.below hal)
    have hb0 := Lib.hid (bgo hb.out hal)
    have hs0 := Lib.hid (seesB_of (s1.more (Nat.le_trans hB hb.out.size)) (Nat.le_refl _) hal)
    clear hal
    go_upto_region 10 with (fail)
    generalize wr.alloc (.cells #[.int .i64 (ty : Int), .slice A1 d.length c1] 113) = W0 at *
    generalize wr.heap.size = g6 at *
    have hp1 : Hid (∀ W, Calls Tryz.prog 78 #[.int .u64 (ty : Int), .int .i64 2] W (Gives (putB 2 ty) W)) := fun W => put_any ty 2 (by omega) (by omega) W
    have hp2 : Hid (∀ W, Calls Tryz.prog 78 #[.int .u64 (d.length : Int), .int .i64 2] W (Gives (putB 2 d.length) W)) := fun W => put_any d.length 2 (by omega) (by omega) W
    have K : Hid (∀ W, Below W0.heap.size W0 W → W.cell? ⟨g6, 0, none⟩ = some (.int .i64 (ty : Int)) ∧ W.cell? ⟨g6, 1, none⟩ = some (.slice A1 d.length c1)) := fun W hW => ⟨(x6.below hW).cell 0, (x6.below hW).cell 1⟩
    have hj : Hid (∀ (W : World) (u1 u2 : Value), Below W0.heap.size W0 W → SeesB W W.heap.size u1 (putB 2 ty) → SeesB W W.heap.size u2 (putB 2 d.length) → Calls Tryz.prog 74 #[.slice (some ⟨W.heap.size, 0, none⟩) 4 4] (W.alloc (.cells #[.slice Ar (wrF (ls.take k)).length cr, u1, u2, .slice A1 d.length c1] 34)) (Gives (wrF (ls.take k) ++ fdB (ty, d)) (W.alloc (.cells #[.slice Ar (wrF (ls.take k)).length cr, u1, u2, .slice A1 d.length c1] 34)))) := fun W u1 u2 hW h1 h2 => by
     have hl := seesL_lit W 34 (vs := [.slice Ar (wrF (ls.take k)).length cr, u1, u2, .slice A1 d.length c1]) (ls := [wrF (ls.take k), putB 2 ty, putB 2 d.length, d]) ⟨(ho0.out.below hW).sees, h1, h2, seesB_of hs0.out (Nat.le_refl _) hW, trivial⟩ (by simp [maxLen])
     have hf : [wrF (ls.take k), putB 2 ty, putB 2 d.length, d].flatten = wrF (ls.take k) ++ fdB (ty, d) := by simp [fdB]
     have := join_any _ _ _ _ hl (Nat.le_refl _) (by rw [hf, List.length_append, fdB_len]; show _ + (4 + d.length) ≤ _; omega)
     rw [hf] at this
     exact this
    obtain ⟨y0, y1⟩ := K.out W0 (Below.refl _ _)
    have n1 : IntKind.u64.wrap (ty : Int) = (ty : Int) := by rw [IntKind.wrap_u64]; omega
    have n2 : IntKind.u64.wrap (d.length : Int) = (d.length : Int) := by rw [IntKind.wrap_u64]; omega
    go_region_held3 (fun W' : World => W'.cell? ⟨g6, 0, none⟩ = some (.int .i64 (ty : Int)) ∧ W'.cell? ⟨g6, 1, none⟩ = some (.slice A1 d.length c1))
     (first | exact K.out _ (by (repeat (first | exact Below.refl _ _ | (refine bgo ?_ (balloc _ _)) | (refine bgo ?_ (bdrew _)) | (refine bgo ?_ (by assumption))))) | (go_keep; done))
     (first
      | (go_at_call 78; (with_reducible refine (hp1.out _).mono ?_); rintro e w1 ⟨v1, rfl, o1, hb1⟩; obtain ⟨B1, d1, rfl, -, -⟩ := o1.sees.mk_)
      | (go_at_call 78; (with_reducible refine (hp2.out _).mono ?_); rintro e w2 ⟨v2, rfl, o2, hb2⟩; obtain ⟨B2, d2, rfl, -, -⟩ := o2.sees.mk_)
      | (go_at_call 74; have hc : Below W0.heap.size W0 w2 := (by (repeat (first | exact Below.refl _ _ | (refine bgo ?_ (balloc _ _)) | (refine bgo ?_ (bdrew _)) | (refine bgo ?_ (by assumption))))); (with_reducible refine (hj.out w2 _ _ hc (seesB_of o1.sees (Nat.le_refl _) hb2) o2.sees).mono ?_); rintro e w9 ⟨v9, rfl, o9, hb9⟩
         have hbF := Lib.hid (bgo (bgo hc (balloc w2 _)) hb9)
         have hoF := Lib.hid (o9.mono (Nat.le_trans hb0.out.size (bgo hc (balloc w2 _)).size)))
      | (go_at_call 74; have hc : Below W0.heap.size W0 w1 := (by (repeat (first | exact Below.refl _ _ | (refine bgo ?_ (balloc _ _)) | (refine bgo ?_ (bdrew _)) | (refine bgo ?_ (by assumption))))); (with_reducible refine (hj.out w1 _ _ hc o1.sees (seesB_of o2.sees (Nat.le_refl _) hb1)).mono ?_); rintro e w9 ⟨v9, rfl, o9, hb9⟩
         have hbF := Lib.hid (bgo (bgo hc (balloc w1 _)) hb9)
         have hoF := Lib.hid (o9.mono (Nat.le_trans hb0.out.size (bgo hc (balloc w1 _)).size))))
    all_goals
     replace hoF : Hid (OwnB w9 w.heap.size v9 (wrF (ls.take (k + 1)))) := by show OwnB _ _ _ _; rw [hst.out]; exact hoF.out
     replace hbF := Lib.hid (bgo hb0.out hbF.out)
     go_wp2_with fail
     go_roundw
     case rel => exact ⟨k + 1, hk1.out, by go_num, hoF, hbF⟩
     case measure => have := hk1.out; simp [intOf]; omega
  · obtain rfl : k = ls.length := by omega
    have i1 : ¬ (ls.length : Int) < (ls.length : Int) := by omega
    rw [List.take_of_length_le (Nat.le_refl _)] at *
    have j3 : ¬ (65535 : Int) < ((wrF ls).length : Int) := by omega
    go_wp2_with fail
    go_returns
    exact ⟨_, rfl, ho.out, hb.out⟩
def fencC (ls : List Lk) (f s : Int) : Int := if 8 < ls.length then 8 else if 0 ≤ f ∧ f ≤ 255 ∧ 0 ≤ s ∧ s ≤ 255 then 0 else 4
def fencB (ls : List Lk) (f s : Int) : Bs := if fencC ls f s = 0 then wrF (encF ls f.toNat s.toNat) else []
def FEncP (ls : List Lk) (f s : Int) (w : World) (e : Ending) (w' : World) : Prop := ∃ v, e = .returned (.tuple #[v, .int .i64 (fencC ls f s)]) ∧ OwnB w' w.heap.size v (fencB ls f s) ∧ Below w.heap.size w w'
theorem own_nil (w : World) (base : Nat) : OwnB w base (.slice none 0 0) [] := World.ownsRow_nil _ _ _ _
theorem fenc_bad {ls : List Lk} {f s c : Int} (h : fencC ls f s = c) (hc : c ≠ 0) {w w' : World} (hb : Below w.heap.size w w') : FEncP ls f s w (.returned (.tuple #[.slice none 0 0, .int .i64 c])) w' := by
 refine ⟨_, by rw [h], ?_, hb⟩
 rw [fencB, if_neg (by rw [h]; exact hc)]
 exact own_nil _ _
theorem fenc_good {ls : List Lk} {a b : UInt8} (h : fencC ls (a.toNat : Int) (b.toNat : Int) = 0) {w w' : World} {v : Value} (ho : OwnB w' w.heap.size v (wrF (encF ls a.toNat b.toNat))) (hb : Below w.heap.size w w') : FEncP ls (a.toNat : Int) (b.toNat : Int) w (.returned (.tuple #[v, .int .i64 0])) w' := by
 refine ⟨_, by rw [h], ?_, hb⟩
 rw [fencB, if_pos h]
 exact ho
theorem byte_ofB {f : Int} (h0 : 0 ≤ f) (h1 : f ≤ 255) : ∃ a : UInt8, f = (a.toNat : Int) := ⟨UInt8.ofNat f.toNat, by rw [UInt8.toNat_ofNat']; omega⟩
theorem lkF_take {ls : List Lk} {k : Nat} {t : Lk} (h : ls[k]? = some t) : (ls.take (k + 1)).flatMap lkF = (ls.take k).flatMap lkF ++ lkF t := by
 rw [List.take_add_one, List.flatMap_append, h]; simp
theorem recs_lit (W : World) (T : TypeId) (size n : Nat) (xs : List Value) (h : xs.length = n * size) (hn : n ≤ maxLen) : Sees (W.alloc (.cells xs.toArray T)) (W.heap.size + 1) (.slice (some ⟨W.heap.size, 0, none⟩) n n) size n xs :=
 ⟨h, _, n, rfl, Nat.le_refl _, hn, fun _ => ⟨W.heap.size, 0, rfl, by omega, fun j u hj => by have := (Box.new W T xs).cell j; rw [Nat.zero_add, this, hj]⟩⟩
theorem trip_elts {w : World} {v x y z : Value} {a b c : Bs} (h1 : EltS w v x (.byt a)) (h2 : EltS w v y (.byt b)) (h3 : EltS w v z (.byt c)) : ∀ (k : Nat) (s : Spec), (fdS (lkF (a, b, c)))[k]? = some s → ∃ u, [Value.int .i64 1, x, .int .i64 2, y, .int .i64 3, z][k]? = some u ∧ EltS w v u s := by
 intro k s hk
 match k, hk with
 | 0, hk => cases hk; exact ⟨_, rfl, rfl, rfl⟩
 | 1, hk => cases hk; exact ⟨_, rfl, h1⟩
 | 2, hk => cases hk; exact ⟨_, rfl, rfl, rfl⟩
 | 3, hk => cases hk; exact ⟨_, rfl, h2⟩
 | 4, hk => cases hk; exact ⟨_, rfl, rfl, rfl⟩
 | 5, hk => cases hk; exact ⟨_, rfl, h3⟩
 | k + 6, hk => simp [fdS, lkF] at hk
theorem last_elts {w : World} {v x : Value} {b : Bs} (h1 : EltS w v x (.byt b)) : ∀ (k : Nat) (s : Spec), (fdS [(4, b)])[k]? = some s → ∃ u, [Value.int .i64 4, x][k]? = some u ∧ EltS w v u s := by
 intro k s hk
 match k, hk with
 | 0, hk => cases hk; exact ⟨_, rfl, rfl, rfl⟩
 | 1, hk => cases hk; exact ⟨_, rfl, h1⟩
 | k + 2, hk => simp [fdS] at hk
theorem old_elt {w w' : World} {B base : Nat} {v u : Value} {l : Bs} (h : SeesB w B u l) (hB : B ≤ base) (hb : Below base w w') (hs : base ≤ w'.heap.size) (hv : ∀ j, v.ownBlock = some j → base ≤ j) : EltS w' v u (.byt l) :=
 ⟨(h.below (hb.mono hB)).more (Nat.le_trans hB hs), fun hl k hk e => by have := hv k e; have := h.blk hl k hk; omega⟩
theorem encF_bytes (ls : List Lk) (a b : UInt8) : encF ls a.toNat b.toNat = ls.flatMap lkF ++ [(4, [a, b])] := by
 rw [encF, UInt8.ofNat_toNat, UInt8.ofNat_toNat]
theorem wrF_mem {l : List Fd} {x : Fd} (h : x ∈ l) : x.2.length + 4 ≤ (wrF l).length := by
 induction l with
 | nil => cases h
 | cons y l ih =>
   rw [wrF_cons, List.length_append, fdB_len]
   rcases List.mem_cons.1 h with rfl | h
   · omega
   · have := ih h; omega
theorem encF_total (ls : List Lk) (f s f' s' : Nat) : (wrF (encF ls f s)).length = (wrF (encF ls f' s')).length := by
 simp only [encF, wrF_append, List.length_append, wrF_one, fdB_len, List.length_cons, List.length_nil]
theorem enc_okF {ls : List Lk} {f s : Nat} (h : (wrF (encF ls f s)).length ≤ 65535) : ∀ x ∈ encF ls f s, okF x := by
 refine fenc_ok fun t ht => ?_
 have hm : ∀ x ∈ lkF t, x.2.length < 65536 := fun x hx => by
  have hx2 : x ∈ encF ls f s := List.mem_append_left _ (List.mem_flatMap.2 ⟨t, ht, hx⟩)
  have := wrF_mem hx2
  omega
 exact ⟨hm (1, t.1) (by simp [lkF]), hm (2, t.2.1) (by simp [lkF]), hm (3, t.2.2) (by simp [lkF])⟩
theorem wrF_size (l : List Fd) : (wrF l).length = 4 * l.length + ((l.map Prod.snd).flatten).length := by
 induction l with
 | nil => rfl
 | cons x l ih => rw [wrF_cons, List.length_append, fdB_len, ih, List.map_cons, List.flatten_cons, List.length_append, List.length_cons]; omega
theorem enc_data {l : List Fd} {m : Nat} {a b : UInt8} {x : Fd} (hm : l.length = 3 * m + 1) (hx : l[3 * m]? = some x) (hab : x.2 = [a, b]) : (encF (exK l m) a.toNat b.toNat).map Prod.snd = l.map Prod.snd := by
 apply List.ext_getElem?
 intro j
 have hel := encF_len (exK l m) a.toNat b.toNat
 rw [exK_len] at hel
 have hsome : ∀ j, j < l.length → l[j]? = some (l.getD j (0, [])) := fun j hj => by
  rw [List.getD_eq_getElem?_getD, List.getElem?_eq_getElem hj]; rfl
 rw [List.getElem?_map, List.getElem?_map]
 rcases Nat.lt_trichotomy j (3 * m) with hj | hj | hj
 · obtain ⟨k, hk⟩ : ∃ k, k = j / 3 := ⟨_, rfl⟩
   have hkm : k < m := by omega
   obtain ⟨e1, e2, e3⟩ := encF_get (f := a.toNat) (s := b.toNat) (exK_get l hkm)
   have hj3 : j = 3 * k ∨ j = 3 * k + 1 ∨ j = 3 * k + 2 := by omega
   rcases hj3 with rfl | rfl | rfl
   · rw [e1, hsome _ (by omega)]; rfl
   · rw [e2, hsome _ (by omega)]; rfl
   · rw [e3, hsome _ (by omega)]; rfl
 · subst hj
   have := encF_last (exK l m) a.toNat b.toNat
   rw [exK_len] at this
   rw [hx, this, UInt8.ofNat_toNat, UInt8.ofNat_toNat]
   show some [a, b] = some x.2
   rw [hab]
 · rw [List.getElem?_eq_none (by omega), List.getElem?_eq_none (by omega)]
theorem enc_back_len {l : List Fd} {m : Nat} {a b : UInt8} {x : Fd} (hm : l.length = 3 * m + 1) (hx : l[3 * m]? = some x) (hab : x.2 = [a, b]) (f s : Nat) : (wrF (encF (exK l m) f s)).length = (wrF l).length := by
 rw [encF_total _ f s a.toNat b.toNat, wrF_size, wrF_size, enc_data hm hx hab, encF_len, exK_len, hm]
set_option maxRecDepth 100000 in
set_option maxHeartbeats 8000000 in
theorem bencode_any (u : Value) (ls : List Lk) (f s : Int) (w : World) (hu : SeesR w w.heap.size u 3 ls.length (linkS ls)) (hl : ls.length ≤ 8 → (wrF (encF ls 0 0)).length ≤ 65535) :
 Calls Tryz.prog 21 #[.agg #[u, .int .i64 f, .int .i64 s]] w (FEncP ls f s w) := by
 obtain ⟨A, c, rfl, hc1, hc2⟩ := hu.mk_
 unfold maxLen at hc2
 obtain ⟨ti, hti, htz, hts, htb⟩ := info_parts field_info
 replace hti := Lib.hid hti
 replace htz := Lib.hid htz
 replace hts := Lib.hid hts
 replace htb := Lib.hid htb
 have hal := balloc w (.cells #[.slice A ls.length c, .int .i64 f, .int .i64 s] 30)
 have x1 := Box.new w 30 [.slice A ls.length c, .int .i64 f, .int .i64 s]
 change Box (w.alloc (.cells #[.slice A ls.length c, .int .i64 f, .int .i64 s] 30)) _ _ _ at x1
 have hu0 := Lib.hid ((hu.below hal).more hal.size)
 replace hl := Lib.hid hl
 clear hu
 go_enter Tryz.func21, Tryz.ntmps21
 go_upto_region 1 with (fail)
 generalize w.alloc (.cells #[.slice A ls.length c, .int .i64 f, .int .i64 s] 30) = W0 at *
 generalize hgg : w.heap.size = g at x1 ⊢
 have hgl := Lib.hid (hal.size)
 obtain ⟨z0, z1, z2, -, -, -⟩ := box3_cells x1
 by_cases h8 : 8 < ls.length
 · have i0 : (8 : Int) < (ls.length : Int) := by omega
   have hr := Lib.hid (fenc_bad (w := w) (w' := W0) (c := 8) (by unfold fencC; rw [if_pos h8]) (by omega) hal : FEncP ls f s w _ W0)
   go_wp2_with fail
   go_returns
   exact hr.out
 have i0 : ¬ (8 : Int) < (ls.length : Int) := by omega
 by_cases hm : min f s < 0
 · have hr := Lib.hid (fenc_bad (w := w) (w' := W0) (c := 4) (by unfold fencC; rw [if_neg h8, if_neg (by omega)]) (by omega) hal : FEncP ls f s w _ W0)
   go_wp2_with fail
   go_returns
   exact hr.out
 by_cases hM : 255 < max f s
 · have hr := Lib.hid (fenc_bad (w := w) (w' := W0) (c := 4) (by unfold fencC; rw [if_neg h8, if_neg (by omega)]) (by omega) hal : FEncP ls f s w _ W0)
   go_wp2_with fail
   go_returns
   exact hr.out
 obtain ⟨a, rfl⟩ := byte_ofB (f := f) (by omega) (by omega)
 obtain ⟨b, rfl⟩ := byte_ofB (f := s) (by omega) (by omega)
 have ha := a.toNat_lt
 have hb' := b.toNat_lt
 have hC : Hid (fencC ls (a.toNat : Int) (b.toNat : Int) = 0) := by show _ = _; unfold fencC; rw [if_neg h8, if_pos (by omega)]
 have m0 : ¬ min (a.toNat : Int) (b.toNat : Int) < 0 := by omega
 have m1 : ¬ (255 : Int) < max (a.toNat : Int) (b.toNat : Int) := by omega
 have n1 : IntKind.u8.wrap (a.toNat : Int) = (a.toNat : Int) := by rw [IntKind.wrap_u8]; omega
 have n2 : IntKind.u8.wrap (b.toNat : Int) = (b.toNat : Int) := by rw [IntKind.wrap_u8]; omega
 clear ha hb'
 go_wp2_with fail
 go_loopw [4, 30] (fun r t wr => ∃ k : Nat, k ≤ ls.length ∧ t = .int .i64 k ∧ Hid (OwnR wr W0.heap.size 113 r 2 (3 * k) (fdS ((ls.take k).flatMap lkF))) ∧ Hid (Below W0.heap.size W0 wr)) (fun _ t _ => ls.length - (intOf t).toNat)
 case atStart => exact ⟨0, by omega, rfl, OwnR.nil _ _ _ _, Below.refl _ _⟩
 case round =>
  clear z0 z1 z2
  obtain ⟨k, hk, rfl, ho, hb⟩ := hrel
  obtain ⟨z0, z1, z2, -, -, -⟩ := box3_cells (x1.below hb.out)
  obtain ⟨Ar, cr, rfl, -, -⟩ := ho.out.sees.mk_
  by_cases hlt : k < ls.length
  · have hk1 : Hid (k + 1 ≤ ls.length) := hlt
    have i1 : (k : Int) < (ls.length : Int) := by omega
    have i2 : (0 : Int) ≤ (k : Int) := by omega
    obtain ⟨t, ht⟩ : ∃ t, ls[k]? = some t := ⟨_, List.getElem?_eq_getElem hlt⟩
    have hst := Lib.hid (lkF_take ht)
    obtain ⟨bb, o, A1, c1, A2, c2, A3, c3, e, hbB, y0, s1, y1, s2, y2, s3⟩ := link_at (hu0.out.below hb.out) k t ht
    subst e
    obtain ⟨d1, d2, d3⟩ := t
    dsimp only at y0 y1 y2 s1 s2 s3
    have hal2 := bgo (balloc wr (.cells #[.slice A1 d1.length c1, .slice A2 d2.length c2, .slice A3 d3.length c3] 101)) (balloc _ (.cells #[.int .i64 1, .slice A1 d1.length c1, .int .i64 2, .slice A2 d2.length c2, .int .i64 3, .slice A3 d3.length c3] 113))
    have hrec := recs_lit (wr.alloc (.cells #[.slice A1 d1.length c1, .slice A2 d2.length c2, .slice A3 d3.length c3] 101)) 113 2 3 [.int .i64 1, .slice A1 d1.length c1, .int .i64 2, .slice A2 d2.length c2, .int .i64 3, .slice A3 d3.length c3] rfl (by unfold maxLen; omega)
    rw [World.size_alloc] at hrec
    change Sees ((wr.alloc (.cells #[.slice A1 d1.length c1, .slice A2 d2.length c2, .slice A3 d3.length c3] 101)).alloc (.cells #[.int .i64 1, .slice A1 d1.length c1, .int .i64 2, .slice A2 d2.length c2, .int .i64 3, .slice A3 d3.length c3] 113)) _ _ _ _ _ at hrec
    have hsz : W0.heap.size ≤ ((wr.alloc (.cells #[.slice A1 d1.length c1, .slice A2 d2.length c2, .slice A3 d3.length c3] 101)).alloc (.cells #[.int .i64 1, .slice A1 d1.length c1, .int .i64 2, .slice A2 d2.length c2, .int .i64 3, .slice A3 d3.length c3] 113)).heap.size := Nat.le_trans hb.out.size hal2.size
    have hv : ∀ j, (Value.slice Ar (3 * k) cr).ownBlock = some j → W0.heap.size ≤ j := fun j hj => (ho.out.lt j hj).1
    have hel := Lib.hid (trip_elts (old_elt s1 (Nat.le_refl _) (hal2.mono hb.out.size) hsz hv) (old_elt s2 (Nat.le_refl _) (hal2.mono hb.out.size) hsz hv) (old_elt s3 (Nat.le_refl _) (hal2.mono hb.out.size) hsz hv))
    have ho2 := Lib.hid (ho.out.below hal2)
    have hb3 := Lib.hid (bgo hb.out hal2)
    replace hrec := Lib.hid hrec
    have hcnt : Hid (3 * k + 3 ≤ 1048576) := by show _ ≤ _; omega
    clear hal2 hsz hv s1 s2 s3 ho hb ht z1 z2
    go_wp2_with (at_builtin; refine wpList_appR (by rfl) _ _ 111 113 Tryz.underlying111 rfl ti _ 2 32 hti.out htz.out hts.out htb.out rfl (by omega) (by omega) W0.heap.size _ (3 * k) _ rfl ho2.out _ _ 3 _ (fdS (lkF (d1, d2, d3))) rfl hrec.out rfl hel.out hcnt.out hb3.out.size ?_)
    intro v' w' hW2 hb4
    replace hW2 : Hid (OwnR w' W0.heap.size 113 v' 2 (3 * (k + 1)) (fdS ((ls.take (k + 1)).flatMap lkF))) := by show OwnR _ _ _ _ _ _ _; rw [hst.out, fdS_append]; exact hW2
    replace hb4 := Lib.hid (hb3.out.trans hb4)
    go_wp2_with fail
    go_roundw
    case rel => exact ⟨k + 1, hk1.out, by go_num, hW2, hb4⟩
    case measure => have := hk1.out; simp [intOf]; omega
  · obtain rfl : k = ls.length := by omega
    have i1 : ¬ (ls.length : Int) < (ls.length : Int) := by omega
    rw [List.take_of_length_le (Nat.le_refl _)] at *
    have hal2 := bgo (balloc wr (.cells #[.int .u8 (a.toNat : Int), .int .u8 (b.toNat : Int)] 5)) (balloc _ (.cells #[.int .i64 4, .slice (some ⟨wr.heap.size, 0, none⟩) 2 2] 113))
    have hby : OwnB (wr.alloc (.cells #[.int .u8 (a.toNat : Int), .int .u8 (b.toNat : Int)] 5)) wr.heap.size (.slice (some ⟨wr.heap.size, 0, none⟩) 2 2) [a, b] := own_made wr [a, b] (by unfold maxLen; simp) _ (Nat.le_refl _)
    have hrec := recs_lit (wr.alloc (.cells #[.int .u8 (a.toNat : Int), .int .u8 (b.toNat : Int)] 5)) 113 2 1 [.int .i64 4, .slice (some ⟨wr.heap.size, 0, none⟩) 2 2] rfl (by unfold maxLen; omega)
    rw [World.size_alloc] at hrec
    change Sees ((wr.alloc (.cells #[.int .u8 (a.toNat : Int), .int .u8 (b.toNat : Int)] 5)).alloc (.cells #[.int .i64 4, .slice (some ⟨wr.heap.size, 0, none⟩) 2 2] 113)) _ _ _ _ _ at hrec
    have hby2 := seesB_of hby.sees (Nat.le_refl _) (balloc (wr.alloc (.cells #[.int .u8 (a.toNat : Int), .int .u8 (b.toNat : Int)] 5)) (.cells #[.int .i64 4, .slice (some ⟨wr.heap.size, 0, none⟩) 2 2] 113))
    have hel := Lib.hid (last_elts (EltS.of_from (v := .slice Ar (3 * ls.length) cr) hby2 hby.from (fun j hj => (ho.out.lt j hj).2)))
    have ho2 := Lib.hid (ho.out.below hal2)
    have hb3 := Lib.hid (bgo hb.out hal2)
    replace hrec := Lib.hid hrec
    have hcnt : Hid (3 * ls.length + 1 ≤ 1048576) := by show _ ≤ _; omega
    have htot : (wrF (encF ls a.toNat b.toNat)).length ≤ 65535 := by rw [encF_total ls a.toNat b.toNat 0 0]; exact hl.out (by omega)
    have hwr : Hid (∀ (v : Value) (W : World), SeesR W W.heap.size v 2 (encF ls a.toNat b.toNat).length (fdS (encF ls a.toNat b.toNat)) → Calls Tryz.prog 69 #[v] W (WriteP (wrF (encF ls a.toNat b.toNat)) W)) := fun v W hv =>
     write_any W.heap.size v (encF ls a.toNat b.toNat) W hv (Nat.le_refl _) (enc_okF htot) htot
    have hel1 := Lib.hid (encF_len ls a.toNat b.toNat)
    have hel2 := Lib.hid (encF_bytes ls a b)
    clear hal2 ho hb hby hby2 htot
    go_wp2_with (at_builtin; refine wpList_appR (by rfl) _ _ 111 113 Tryz.underlying111 rfl ti _ 2 32 hti.out htz.out hts.out htb.out rfl (by omega) (by omega) W0.heap.size _ (3 * ls.length) _ rfl ho2.out _ _ 1 _ (fdS [(4, [a, b])]) rfl hrec.out rfl hel.out hcnt.out hb3.out.size ?_)
    intro v' w' hW2 hb4
    replace hW2 : Hid (SeesR w' w'.heap.size v' 2 (encF ls a.toNat b.toNat).length (fdS (encF ls a.toNat b.toNat))) := by
     show SeesR _ _ _ _ _ _
     rw [hel1.out, hel2.out, fdS_append]; exact hW2.sees
    replace hb4 := Lib.hid (bgo hal (hb3.out.trans hb4))
    have hww := Lib.hid (hwr.out v' w' hW2.out)
    clear hwr hel1 hel2 hel hrec ho2 hb3
    go_wp2_with fail
    refine hww.out.mono ?_
    rintro e w9 ⟨v9, rfl, o9, hb9⟩
    have hb10 := Lib.hid (bgo hb4.out hb9)
    have o10 := Lib.hid (o9.mono (hb4.out.size))
    clear hww
    dsimp only
    go_wp2_with fail
    go_returns
    exact fenc_good hC.out o10.out hb10.out
set_option maxRecDepth 100000 in
theorem followed_any (A : Option Addr) (n c : Nat) (w : World) : Calls Tryz.prog 120 #[.slice A n c] w fun e w' => e = .returned (.func (.func 183) #[] #[.pointer (some ⟨w.heap.size, 0, none⟩)]) ∧ w' = w.alloc (.cells #[.slice A n c] 26) := by
 go_enter Tryz.func120, Tryz.ntmps120
 go_wp2_with fail
 go_ret
 exact ⟨rfl, rfl⟩
end Go.Proofs.YtgehkgjllhkhoaaGreat
namespace Go.Proofs.YtgehkgjllhkhoaaGreat
open Go Go.RowKit Go.Shelf
set_option linter.unusedVariables false
attribute [local go_sem ↓] Go.wp_at_zero Go.wp_at_succ
attribute [local go_sem] Oper.semAt_some
def lastV (cv : Nat → Value) : Nat → Value
 | 0 => .slice none 0 0
 | m + 1 => cv (m * 3 + 2)
set_option maxRecDepth 100000 in
theorem last_at (cv : Nat → Value) (b o m c : Nat) (A : Option Addr) (w : World) (hm : m ≤ 8) (hc : 0 < m → A = some ⟨b, o, none⟩ ∧ w.cell? ⟨b, o + ((m - 1) * 3 + 2), none⟩ = some (cv ((m - 1) * 3 + 2))) :
 Calls Tryz.prog 117 #[.slice A m c] w fun e w' => e = .returned (lastV cv m) ∧ w' = w := by
 cases m with
 | zero =>
   go_enter Tryz.func117, Tryz.ntmps117
   go_wp2_with fail
   go_returns
   exact ⟨rfl, rfl⟩
 | succ m =>
   obtain ⟨rfl, hx⟩ := hc (by omega)
   rw [Nat.add_sub_cancel, ← Nat.add_assoc] at hx
   have hl : lastV cv (m + 1) = cv (m * 3 + 2) := rfl
   rw [hl]
   generalize cv (m * 3 + 2) = v at *
   have i0 : ¬ ((m + 1 : Nat) : Int) = 0 := by omega
   have i1 : ((m + 1 : Nat) : Int) - 1 = (m : Int) := by omega
   have i2 : (m : Int) < ((m + 1 : Nat) : Int) := by omega
   generalize m + 1 = k at *
   clear hl hc
   go_enter Tryz.func117, Tryz.ntmps117
   go_wp2_with fail
   go_returns
   exact ⟨rfl, rfl⟩
theorem link_size (w : World) : (sizeOf 101).run Tryz.prog w = .ok 3 w := by kernel_rfl
def K2 (n₀ Bx : Nat) (X Y : World) : Prop := Below n₀ X Y ∧ (Bx < X.heap.size → Y.heap[Bx]? = X.heap[Bx]?)
theorem K2.trans {n₀ Bx : Nat} {X Y Z : World} (h : K2 n₀ Bx X Y) (k : K2 n₀ Bx Y Z) : K2 n₀ Bx X Z := ⟨h.1.trans k.1, fun hb => (k.2 (Nat.lt_of_lt_of_le hb h.1.size)).trans (h.2 hb)⟩
theorem K2.of_below {n₀ Bx : Nat} {X Y : World} (h : Below X.heap.size X Y) (hn : n₀ ≤ X.heap.size) : K2 n₀ Bx X Y := ⟨h.mono hn, fun hb => h.block _ hb⟩
theorem K2.cell {n₀ Bx : Nat} {X Y : World} {v : Value} (h : K2 n₀ Bx X Y) (hc : X.cell? ⟨Bx, 0, none⟩ = some v) (hb : Bx < X.heap.size) : Y.cell? ⟨Bx, 0, none⟩ = some v := (World.cell?_of_block (a := ⟨Bx, 0, none⟩) (h.2 hb)).trans hc
def finT (N k : Nat) : List (Fin N) := (List.finRange N).take k
theorem finT_next (N k : Nat) (h : k < N) : finT N (k + 1) = finT N k ++ [⟨k, h⟩] := take_one _ k _ (by rw [List.getElem?_eq_getElem (by simpa using h)]; simp)
theorem finT_len (N k : Nat) (h : k ≤ N) : (finT N k).length = k := by simp [finT]; omega
def encK (cv : Nat → Value) (k : Nat) : Array Value := #[lastV cv k, .agg #[cv (k * 3), cv (k * 3 + 1), cv (k * 3 + 2)]]
set_option maxRecDepth 100000 in
set_option maxHeartbeats 4000000 in
theorem followed1_in (n : Nat) (hn : 2 ≤ n) (l Bx n₀ b o c N : Nat) (A : Option Addr) (cv : Nat → Value) (hN : N ≤ 8) (hc : N ≤ c) (hA : 0 < N → A = some ⟨b, o, none⟩ ∧ b < n₀) (J Jx : List (Fin N) → World → Prop) (B0 : Nat) (hJ : AbidesFrom B0 J)
 (hY : ∀ pre x W, J pre W → pre.length < N → YieldAt Fence.wide (n - 1) Tryz.prog l (encK cv x.val) W fun e W' =>
  (e = .returned (.bool true) ∧ J (pre ++ [x]) W' ∧ K2 n₀ Bx W W') ∨ (e = .returned (.bool false) ∧ Jx (pre ++ [x]) W'))
 (W : World) (hn0 : n₀ ≤ W.heap.size) (hbx : Bx < W.heap.size) (hcell : ∀ j, j < N * 3 → W.cell? ⟨b, o + j, none⟩ = some (cv j)) (hsl : ∀ j, j < N * 3 → ∃ A n c, cv j = .slice A n c) (hBx : W.cell? ⟨Bx, 0, none⟩ = some (.slice A N c)) (h0 : J [] W) :
 CallsIn Fence.wide n Tryz.prog 183 #[.func (.yield l) #[] #[], .pointer (some ⟨Bx, 0, none⟩)] W fun e W' => (∃ v, e = .returned v) ∧
  ((∃ ys, ys = finT N N ∧ J ys W') ∨ (∃ pre, (∃ k, k ≤ N ∧ pre = finT N k) ∧ Jx pre W')) := by
 refine callsIn_of_wp Tryz.func183 rfl trivial ?_ rfl
 simp only [Tryz.ntmps183, List.size_toArray, List.length_cons, List.length_nil, Nat.reduceAdd, Nat.reduceSub, Array.replicate_succ, Array.replicate_zero, List.push_toArray, List.append_toArray, List.nil_append, List.cons_append]
 gi_wp2
 gi_loopw [7] (fun i wr => ∃ k : Nat, k ≤ N ∧ i = .int .i64 (k : Int) ∧ J (finT N k) wr ∧ Hid (K2 n₀ Bx W wr)) (fun i _ => N - (intOf i).toNat)
 case atStart => exact ⟨0, Nat.zero_le _, rfl, h0, K2.of_below (Below.refl _ _) hn0⟩
 case round =>
  obtain ⟨k, hk, rfl, hJs, hnx⟩ := hrel
  have c0 := hnx.out.cell hBx hbx
  by_cases hlt : k < N
  · obtain ⟨rfl, hb⟩ := hA (by omega)
    have i0 : (k : Int) < (N : Int) := by omega
    have j0 : (0 : Int) ≤ (k : Int) := by omega
    have x0 := (hnx.out.1.cell (p := ⟨b, o + (k * 3), none⟩) hb).trans (hcell (k * 3) (by omega))
    have x1 := (hnx.out.1.cell (p := ⟨b, o + (k * 3 + 1), none⟩) hb).trans (hcell (k * 3 + 1) (by omega))
    have x2 := (hnx.out.1.cell (p := ⟨b, o + (k * 3 + 2), none⟩) hb).trans (hcell (k * 3 + 2) (by omega))
    rw [← Nat.add_assoc] at x1 x2
    have hs := hnx.out.1.size
    have hls := fun A' W' (h1 : W'.cell? ⟨b, o + ((k - 1) * 3 + 2), none⟩ = wr.cell? ⟨b, o + ((k - 1) * 3 + 2), none⟩) (h2 : 0 < k → A' = some ⟨b, o, none⟩) => last_at cv b o k c A' W' (by omega) fun h => ⟨h2 h, h1.trans ((hnx.out.1.cell (p := ⟨b, o + ((k - 1) * 3 + 2), none⟩) hb).trans (hcell _ (by omega)))⟩
    have hen : Hid (∀ a0 a1 a2, a0 = cv (k * 3) → a1 = cv (k * 3 + 1) → a2 = cv (k * 3 + 2) → encK cv k = #[lastV cv k, .agg #[a0, a1, a2]]) := fun a0 a1 a2 e0 e1 e2 => by rw [e0, e1, e2]; rfl
    obtain ⟨P0, q0, r0, y0⟩ := hsl (k * 3) (by omega)
    obtain ⟨P1, q1, r1, y1⟩ := hsl (k * 3 + 1) (by omega)
    obtain ⟨P2, q2, r2, y2⟩ := hsl (k * 3 + 2) (by omega)
    generalize h3 : cv (k * 3) = a0 at *
    generalize h4 : cv (k * 3 + 1) = a1 at *
    generalize h5 : cv (k * 3 + 2) = a2 at *
    replace hen := Lib.hid (hen.out _ _ _ rfl rfl rfl)
    clear hcell hA hsl h3 h4 h5
    subst y0 y1 y2
    have hrc := run_cut_to (P := Tryz.prog) 26 Tryz.underlying26 3 link_size (some ⟨b, o, none⟩) N c .i64 (k : Int) j0 (by omega)
    rw [Int.toNat_natCast, Nat.sub_zero, Nat.sub_zero] at hrc
    gi_upto_region 3 with (fail)
    obtain ⟨z0, z1, z2, -, -, -⟩ := box3_cells (Box.new wr 101 [.slice P0 q0 r0, .slice P1 q1 r1, .slice P2 q2 r2])
    have hal := balloc wr (.cells #[.slice P0 q0 r0, .slice P1 q1 r1, .slice P2 q2 r2] 101)
    change (wr.alloc (.cells #[.slice P0 q0 r0, .slice P1 q1 r1, .slice P2 q2 r2] 101)).cell? _ = _ at z0 z1 z2
    have hn1 : n₀ ≤ wr.heap.size := Nat.le_trans hn0 hs
    have hx1 := hnx.out.trans (K2.of_below hal hn1)
    have hbx1 : Bx < wr.heap.size := Nat.lt_of_lt_of_le hbx hs
    have c1 := (hal.cell (p := ⟨Bx, 0, none⟩) hbx1).trans c0
    have hJ1 : J (finT N k) (wr.alloc (.cells #[.slice P0 q0 r0, .slice P1 q1 r1, .slice P2 q2 r2] 101)).drew := hJ _ _ _ none hJs ⟨rfl, rfl, rfl, hal.size, fun _ hk _ => hal.block _ hk⟩ (fun r e => by cases e)
    have hl1 := hls (cutA (some ⟨b, o, none⟩) c 0 3) (wr.alloc (.cells #[.slice P0 q0 r0, .slice P1 q1 r1, .slice P2 q2 r2] 101)).drew (hal.cell (p := ⟨b, o + ((k - 1) * 3 + 2), none⟩) (show b < wr.heap.size by omega)) (fun _ => by unfold cutA; rw [if_neg (by omega)]; rfl)
    generalize cutA (some ⟨b, o, none⟩) c 0 3 = A9 at *
    generalize wr.alloc (.cells #[.slice P0 q0 r0, .slice P1 q1 r1, .slice P2 q2 r2] 101) = W1 at *
    generalize wr.heap.size = g1 at *
    obtain ⟨fn, tmps, assign, body, hy, hR⟩ := hY _ ⟨k, hlt⟩ W1.drew hJ1 (by rw [finT_len N k (by omega)]; exact hlt)
    dsimp only at hy
    rw [hen.out] at hy
    rw [← finT_next] at hR
    generalize lastV cv k = LV at *
    have hR2 := hR.mono (R' := fun e W' => ∃ β : Bool, e = .returned (.bool β) ∧ ((β = true ∧ J (finT N (k + 1)) W' ∧ K2 n₀ Bx W1.drew W') ∨ (β = false ∧ Jx (finT N (k + 1)) W'))) (by
     rintro e W3 (⟨rfl, h1, h2⟩ | ⟨rfl, h1⟩)
     · exact ⟨true, rfl, .inl ⟨rfl, h1, h2⟩⟩
     · exact ⟨false, rfl, .inr ⟨rfl, h1⟩⟩)
    replace hx1 := Lib.hid hx1
    clear hJ1 hJs hal hls hR c0 x0 x1 x2 hnx
    gi_region_with (first
     | (refine ⟨trivial, fun _ => (by omega : 1 ≤ n), (callsIn_wide.2 hl1).mono ?_⟩; rintro e w' ⟨rfl, rfl⟩)
     | (refine ⟨fun _ => (by omega : 1 ≤ n), hR2.mono ?_⟩; rintro e W3 ⟨β, rfl, hβ⟩))
    all_goals
     rcases hβ with ⟨rfl, hJ3, hk3⟩ | ⟨rfl, hJx3⟩
     · have hx3 : Hid (K2 n₀ Bx W W3) := (hx1.out.trans (K2.of_below (bdrew W1) (Nat.le_trans hn0 hx1.out.1.size))).trans hk3
       clear hx1 hk3
       gi_wp2
       go_roundw
       case rel => exact ⟨k + 1, by omega, by go_num, hJ3, hx3⟩
       case measure => simp [intOf]; omega
     · gi_wp2
       refine bodyPost_ret (results_none rfl _ _ _) rfl ?_
       exact ⟨⟨_, rfl⟩, .inr ⟨_, ⟨k + 1, by omega, rfl⟩, hJx3⟩⟩
  · obtain rfl : k = N := by omega
    gi_wp2
    go_end0
    exact ⟨⟨_, rfl⟩, .inl ⟨_, rfl, hJs⟩⟩
theorem followed_stops (n : Nat) (hn : 2 ≤ n) (Bx n₀ b o c N : Nat) (A : Option Addr) (cv : Nat → Value) (hN : N ≤ 8) (hc : N ≤ c) (hA : 0 < N → A = some ⟨b, o, none⟩ ∧ b < n₀) (w : World) (hbx : Bx < w.heap.size) (hn0 : n₀ ≤ w.heap.size)
 (hcell : ∀ j, j < N * 3 → w.cell? ⟨b, o + j, none⟩ = some (cv j)) (hsl : ∀ j, j < N * 3 → ∃ A n c, cv j = .slice A n c) (hBx : w.cell? ⟨Bx, 0, none⟩ = some (.slice A N c)) :
 SeqStopsK Fence.wide n Tryz.prog 183 #[.pointer (some ⟨Bx, 0, none⟩)] (fun k : Fin N => encK cv k.val) (K2 n₀ Bx) (fun ys => ys = finT N N) (fun pre => ∃ k, k ≤ N ∧ pre = finT N k) N w := fun l J Jx W hW hJ _ hY h0 =>
 followed1_in n hn l Bx n₀ b o c N A cv hN hc hA J Jx W.heap.size hJ hY W (Nat.le_trans hn0 hW.size) (Nat.lt_of_lt_of_le hbx hW.size)
  (fun j hj => (hW.cell (p := ⟨b, o + j, none⟩) (show b < w.heap.size by have := (hA (by omega)).2; omega)).trans (hcell j hj)) hsl ((hW.cell (p := ⟨Bx, 0, none⟩) hbx).trans hBx) h0
theorem row_cells {w : World} {B n c : Nat} {A : Option Addr} {ls : List LinkG} (h : SeesR w B (.slice A n c) 3 n (linkS ls)) (hn : ls.length = n) :
 ∃ (cv : Nat → Value) (b o : Nat), n ≤ c ∧ (0 < n → A = some ⟨b, o, none⟩ ∧ b < B) ∧ (∀ j, j < n * 3 → w.cell? ⟨b, o + j, none⟩ = some (cv j)) ∧ (∀ j, j < n * 3 → ∃ A n c, cv j = .slice A n c) ∧
  ∀ k, k < n → SeesB w B (cv (k * 3)) (linkT ls k).1 ∧ SeesB w B (cv (k * 3 + 1)) (linkT ls k).2.1 ∧ SeesB w B (cv (k * 3 + 2)) (linkT ls k).2.2 := by
 obtain ⟨h0, vs, hs, hv⟩ := h
 obtain ⟨A', c', e, hc1, -⟩ := hs.mk_
 injection e with e1 e2 e3
 subst e1 e3
 have hvl : vs.length = n * 3 := hs.len
 have hg : ∀ j, j < n * 3 → vs[j]? = some (vs.getD j undef) := fun j hj => by rw [List.getD_eq_getElem?_getD, List.getElem?_eq_getElem (by omega)]; rfl
 have hk : ∀ k, k < n → SeesB w B (vs.getD (k * 3) undef) (linkT ls k).1 ∧ SeesB w B (vs.getD (k * 3 + 1) undef) (linkT ls k).2.1 ∧ SeesB w B (vs.getD (k * 3 + 2) undef) (linkT ls k).2.2 := fun k hk => by
  have hdk : ls[k]? = some (linkT ls k) := by rw [linkT, List.getD_eq_getElem?_getD, List.getElem?_eq_getElem (by omega)]; rfl
  obtain ⟨g1, g2, g3⟩ := linkS_get ls k _ hdk
  have one : ∀ (j : Nat) (l : Bs), (linkS ls)[j]? = some (.byt l) → j < n * 3 → SeesB w B (vs.getD j undef) l := fun j l hj hjn => by
   obtain ⟨u, e1, e2⟩ := hv j _ hj
   rw [hg j hjn] at e1
   cases e1
   exact e2
  exact ⟨one _ _ g1 (by omega), one _ _ g2 (by omega), one _ _ g3 (by omega)⟩
 have hsl : ∀ j, j < n * 3 → ∃ A n c, vs.getD j undef = .slice A n c := fun j hj => by
  have hq := hk (j / 3) (by omega)
  rcases (show j % 3 = 0 ∨ j % 3 = 1 ∨ j % 3 = 2 by omega) with h | h | h
  · obtain ⟨A, c, e, -, -⟩ := hq.1.mk_
    rw [show j / 3 * 3 = j by omega] at e
    exact ⟨_, _, _, e⟩
  · obtain ⟨A, c, e, -, -⟩ := hq.2.1.mk_
    rw [show j / 3 * 3 + 1 = j by omega] at e
    exact ⟨_, _, _, e⟩
  · obtain ⟨A, c, e, -, -⟩ := hq.2.2.mk_
    rw [show j / 3 * 3 + 2 = j by omega] at e
    exact ⟨_, _, _, e⟩
 rcases Nat.eq_zero_or_pos n with hz | hz
 · subst hz
   exact ⟨fun j => vs.getD j undef, 0, 0, hc1, fun h => absurd h (by omega), fun j hj => absurd hj (by omega), hsl, hk⟩
 · obtain ⟨b, o, e, hb, hcell⟩ := hs.at_ hz
   exact ⟨fun j => vs.getD j undef, b, o, hc1, fun _ => ⟨e, hb⟩, fun j hj => hcell j _ (hg j hj), hsl, hk⟩
theorem last_sees {w : World} {B : Nat} {cv : Nat → Value} {ls : List LinkG} {n : Nat} (hn : ls.length = n) (h : ∀ k, k < n → SeesB w B (cv (k * 3 + 2)) (linkT ls k).2.2) (k : Nat) (hk : k < n) : SeesB w B (lastV cv k) (lastA (ls.take k)) := by
 cases k with
 | zero => exact SeesB.nil _ _
 | succ m =>
   have hdk : ls[m]? = some (linkT ls m) := by rw [linkT, List.getD_eq_getElem?_getD, List.getElem?_eq_getElem (by omega)]; rfl
   have hl := lastA_get (ls.take (m + 1)) m (linkT ls m) (by rw [List.length_take]; omega) (by rw [List.getElem?_take, if_pos (by omega)]; exact hdk)
   rw [hl]
   exact h m (by omega)
def spanC2 (vs : List (Int × Int)) : List Value := vs.flatMap fun v => [.int .i64 v.1, .int .i64 v.2]
theorem spanC2_row {w : World} {base n : Nat} {v : Value} {vs : List (Int × Int)} (h : w.ownsRow base 23 2 v n (spanC2 vs)) (hn : vs.length = n) : SeesR w w.heap.size v 2 n (spanS vs) := by
 refine ⟨by rw [spanS_len, hn], _, Sees.of_own h, fun k s hk => ?_⟩
 have e : (spanC2 vs).map Spec.val = spanS vs := by simp [spanC2, spanS, List.map_flatMap]
 rw [← e, List.getElem?_map] at hk
 cases hc : (spanC2 vs)[k]? with
 | none => rw [hc] at hk; cases hk
 | some u =>
   rw [hc] at hk
   cases hk
   refine ⟨u, rfl, rfl, ?_⟩
   have hm := List.mem_of_getElem? hc
   simp only [spanC2, List.mem_flatMap] at hm
   obtain ⟨p, -, hp⟩ := hm
   simp at hp
   rcases hp with rfl | rfl <;> rfl
theorem keeps_below {B : Nat} {W W' : World} (h : Below W.heap.size W W') : KeepsFrom B W W' :=
 ⟨h.size, fun k o hB hk _ => (h.block k (Array.getElem?_eq_some_iff.1 hk).1).trans hk⟩
theorem finT_map {β : Type} (N : Nat) (f : Nat → β) : (finT N N).map (fun i => f i.val) = (List.range N).map f := by
 apply List.ext_getElem?
 intro j
 by_cases h : j < N
 · rw [List.getElem?_map, List.getElem?_map, List.getElem?_range h, finT, List.getElem?_take, if_pos h, List.getElem?_eq_getElem (by simpa using h)]
   simp
 · rw [List.getElem?_eq_none (by simp [finT]; omega), List.getElem?_eq_none (by simp; omega)]
theorem finT_mem (N k j : Nat) (hk : k ≤ N) (h : j < k) : (⟨j, by omega⟩ : Fin N) ∈ finT N k := by
 refine List.mem_of_getElem? (i := j) ?_
 rw [finT, List.getElem?_take, if_pos h, List.getElem?_eq_getElem (by simp; omega)]
 simp
theorem first_all (ls : List LinkG) (k : Nat) (h : ∀ j, j < k → linkC ls j = 0) : firstC ls k = 0 := by
 induction k with
 | zero => rfl
 | succ k ih => rw [first_ok ls k (ih fun j hj => h j (by omega)), h k (by omega)]
theorem spanC2_sees {w : World} {B n : Nat} {v : Value} {vs : List (Int × Int)} (h : SeesR w B v 2 n (spanS vs)) : Sees w B v 2 n (spanC2 vs) := by
 obtain ⟨h0, us, hs, hu⟩ := h
 have e : us = spanC2 vs := by
  have em : (spanC2 vs).map Spec.val = spanS vs := by simp [spanC2, spanS, List.map_flatMap]
  apply List.ext_getElem?
  intro j
  by_cases hj : j < (spanS vs).length
  · obtain ⟨u, e1, e2⟩ := hu j _ (List.getElem?_eq_getElem hj)
    have h2 : ((spanC2 vs).map Spec.val)[j]? = some (spanS vs)[j] := by rw [em]; exact List.getElem?_eq_getElem hj
    rw [List.getElem?_map] at h2
    cases hc : (spanC2 vs)[j]? with
    | none => rw [hc] at h2; cases h2
    | some y =>
      rw [hc] at h2
      have h3 : Spec.val y = (spanS vs)[j] := Option.some.inj h2
      rw [← h3] at e2
      rw [e1, e2.1]
  · have hl : (spanC2 vs).length = (spanS vs).length := by rw [← em, List.length_map]
    rw [List.getElem?_eq_none (by rw [hs.len, ← h0]; omega), List.getElem?_eq_none (by omega)]
 rw [← e]
 exact hs
theorem spanC2_get (vs : List (Int × Int)) : ∀ k, k < vs.length → (spanC2 vs)[k * 2]? = some (.int .i64 (vs.getD k (0, 0)).1) ∧ (spanC2 vs)[k * 2 + 1]? = some (.int .i64 (vs.getD k (0, 0)).2) := by
 induction vs with
 | nil => intro k h; simp at h
 | cons a r ih =>
   intro k h
   cases k with
   | zero => exact ⟨rfl, rfl⟩
   | succ k =>
     obtain ⟨h1, h2⟩ := ih k (by simpa using h)
     have e : spanC2 (a :: r) = [.int .i64 a.1, .int .i64 a.2] ++ spanC2 r := rfl
     rw [e, show (k + 1) * 2 = k * 2 + 2 by omega, show k * 2 + 2 + 1 = k * 2 + 1 + 2 by omega]
     exact ⟨h1, h2⟩
end Go.Proofs.YtgehkgjllhkhoaaGreat
namespace Go.Proofs.YtgehkgjllhkhoaaGreat
open Go Go.RowKit Go.Shelf
set_option linter.unusedVariables false
attribute [local go_sem ↓] Go.wp_at_zero Go.wp_at_succ
attribute [local go_sem] Oper.semAt_some
def spansOf (ls : List LinkG) {N : Nat} (pre : List (Fin N)) : List (Int × Int) := pre.map fun i => linkV ls i.val
def InvV (ls : List LinkG) (N : Nat) (w : World) (A : Option Addr) (c G : Nat) (z : Nat) (pre : List (Fin N)) (W : World) : Prop :=
 (∃ v, Boxed W (w.heap.size + 1 + 1) 28 v ∧ W.ownsRow w.heap.size 23 2 v pre.length (spanC2 (spansOf ls pre)) ∧ True) ∧
  (Boxed W w.heap.size 28 (.slice none 0 0) ∧ Boxed W (w.heap.size + 1) 31 (.int .i64 0) ∧ Boxed W G 26 (.slice A N c)) ∧ Below w.heap.size w W ∧ (∀ x ∈ pre, linkC ls x.val = 0) ∧ z ≤ W.heap.size
def OutV (ls : List LinkG) (N : Nat) (w : World) (c : Code) (pre : List (Fin N)) (W : World) : Prop :=
 (c = .ret ∧ ∃ (qs : List (Fin N)) (x : Fin N), pre = qs ++ [x] ∧ (∀ y ∈ qs, linkC ls y.val = 0) ∧ linkC ls x.val ≠ 0 ∧ True) ∧
  (Boxed W w.heap.size 28 (.slice none 0 0) ∧ (∃ (qs : List (Fin N)) (x : Fin N), pre = qs ++ [x] ∧ Boxed W (w.heap.size + 1) 31 (.int .i64 (linkC ls x.val)))) ∧ Below w.heap.size w W
def AxV (cv : Nat → Value) (A : Option Addr) (c G N : Nat) (w : World) (x : Fin N) (a' : Act) (W : World) : Prop :=
 ∃ g, W.heap[g]? = some (.cells #[cv (x.val * 3), cv (x.val * 3 + 1), cv (x.val * 3 + 2)] 101) ∧ a' = { tmps := #[.slice A N c, undef, .pointer (some ⟨w.heap.size, 0, none⟩), .pointer (some ⟨w.heap.size + 1, 0, none⟩), .pointer (some ⟨w.heap.size + 1 + 1, 0, none⟩), lastV cv x.val, .pointer (some ⟨g, 0, none⟩), undef, undef, undef, .slice A N c, .int .i64 (N : Int), .bool false, .slice A N c, .func (.func 183) #[] #[.pointer (some ⟨G, 0, none⟩)], lastV cv x.val, .agg #[cv (x.val * 3), cv (x.val * 3 + 1), cv (x.val * 3 + 2)], undef, undef, undef, undef, undef, undef, undef, undef, undef, undef, undef, undef, undef, undef, undef, undef, undef, undef, undef, undef, undef, undef, undef, undef, undef, undef, undef], defers := [] }
theorem cells_own {β : Type} (B : Nat) (f : β → Nat → Prop) (T : TypeId) (cs : Array Value) : OwnFrom B (fun (s : β) W => ∃ g, W.heap[g]? = some (.cells cs T) ∧ f s g) := fun s X Y row hs hg hrow => by
 obtain ⟨g, h1, h2⟩ := hs
 refine ⟨g, (hg.block g (Array.getElem?_eq_some_iff.1 h1).1 (fun e => ?_)).trans h1, h2⟩
 obtain ⟨-, o, ho, hc⟩ := hrow g e.symm
 rw [h1] at ho
 cases ho
 cases hc
theorem cells_two (w : World) (a b : Value) (T : TypeId) : ∀ (j : Nat) (u : Value), [a, b][j]? = some u → (w.alloc (.cells #[a, b] T)).cell? ((⟨w.heap.size, 0, none⟩ : Addr).add j) = some u := by
 intro j u h
 have hx := Box.new w T [a, b]
 match j, h with
 | 0, h => cases h; exact hx.cell 0
 | 1, h => cases h; exact hx.cell 1
theorem outV_of {ls : List LinkG} {N B : Nat} {w W w1 : World} {pre : List (Fin N)} {x : Fin N} {C : Int} (j3 : Boxed w1 w.heap.size 28 (.slice none 0 0)) (j4 : Boxed w1 (w.heap.size + 1) 31 (.int .i64 0)) (hK : KeepsFrom B W w1) (hb : Below w.heap.size w w1)
 (h0 : ∀ y ∈ pre, linkC ls y.val = 0) (hC : linkC ls x.val = C) (hne : C ≠ 0) :
 KeepsFrom B W ((w1.setCell ⟨w.heap.size, 0, none⟩ (.slice none 0 0)).setCell ⟨w.heap.size + 1, 0, none⟩ (.int .i64 C)) ∧ OutV ls N w .ret (pre ++ [x]) ((w1.setCell ⟨w.heap.size, 0, none⟩ (.slice none 0 0)).setCell ⟨w.heap.size + 1, 0, none⟩ (.int .i64 C)) := by
 refine ⟨hK.trans (((KeepsOthers.setCell _ _ _).trans (KeepsOthers.setCell _ _ _)).from _), ⟨rfl, pre, x, rfl, h0, by rw [hC]; exact hne, trivial⟩, ⟨(j3.set _).other (by omega) _, pre, x, rfl, ?_⟩, (hb.setCell (p := ⟨w.heap.size, 0, none⟩) (Nat.le_refl _) _).setCell (p := ⟨w.heap.size + 1, 0, none⟩) (Nat.le_succ _) _⟩
 rw [hC]
 exact (j4.other (by omega) _).set _
set_option maxRecDepth 100000 in
set_option maxHeartbeats 4000000 in
theorem cver_in (B : Nat) (u : Value) (ls : List LinkG) (w : World) (hu : SeesR w B u 3 ls.length (linkS ls)) (hB : B ≤ w.heap.size) (hn : ls.length ≤ 8) (hl : ∀ t ∈ ls, t.2.2.length ≤ 1048576) :
 CallsIn Fence.wide 3 Tryz.prog 59 #[u] w (CVerP ls w) := by
 obtain ⟨A, c, rfl, -, -⟩ := hu.mk_
 obtain ⟨cv, b, o, hnc, hA, hcell, hsl, hk3⟩ := row_cells hu rfl
 have hCC : Hid (cverC ls = firstC ls ls.length) := by show _ = _; rw [cverC, if_neg (by omega)]
 have i8 : ¬ (8 : Int) < (ls.length : Int) := by omega
 generalize hN : ls.length = N at *
 refine callsIn_of_wp_marks Tryz.func59 rfl trivial ?_ rfl
 simp only [Tryz.ntmps59, List.size_toArray, List.length_cons, List.length_nil, Nat.reduceAdd, Nat.reduceSub, Array.replicate_succ, Array.replicate_zero, List.push_toArray, List.append_toArray, List.nil_append, List.cons_append]
 gi_wp2
 have hb3 := bgo (bgo (balloc w (.cells #[.slice none 0 0] 28)) (balloc _ (.cells #[.int .i64 0] 31))) (balloc _ (.cells #[.slice none 0 0] 28))
 have hx0 : Boxed (((w.alloc (.cells #[.slice none 0 0] 28)).alloc (.cells #[.int .i64 0] 31)).alloc (.cells #[.slice none 0 0] 28)) w.heap.size 28 (.slice none 0 0) := ((Boxed.new w _ _).alloc _).alloc _
 have hx1 := (Boxed.new (w.alloc (.cells #[.slice none 0 0] 28)) 31 (.int .i64 0)).alloc (.cells #[.slice none 0 0] 28)
 have hx2 := Boxed.new ((w.alloc (.cells #[.slice none 0 0] 28)).alloc (.cells #[.int .i64 0] 31)) 28 (.slice none 0 0)
 rw [World.size_alloc] at hx1
 rw [World.size_alloc, World.size_alloc] at hx2
 generalize ((w.alloc (.cells #[.slice none 0 0] 28)).alloc (.cells #[.int .i64 0] 31)).alloc (.cells #[.slice none 0 0] 28) = W3 at *
 refine ⟨trivial, (callsIn_wide.2 (followed_any _ _ _ _)).mono ?_⟩
 rintro e w' ⟨rfl, rfl⟩
 dsimp only
 gi_wp2
 have hal := balloc W3 (.cells #[.slice A N c] 26)
 have hx3 := Boxed.new W3 26 (.slice A N c)
 have hx0' := hx0.alloc (.cells #[.slice A N c] 26)
 have hx1' := hx1.alloc (.cells #[.slice A N c] 26)
 have hx2' := hx2.alloc (.cells #[.slice A N c] 26)
 have hb4 := bgo hb3 hal
 have hGn := Lib.hid hx2.lt
 clear hx0 hx1 hx2 hb3 hal
 generalize W3.alloc (.cells #[.slice A N c] 26) = W4 at *
 generalize W3.heap.size = G at *
 refine wpIn_rangeFunc_ownH (α := Fin N) rfl (by omega) (gf := 183) (lb := #[.pointer (some ⟨G, 0, none⟩)]) rfl trivial (enters_of Tryz.func183 (by kernel_rfl) rfl)
  (followed_stops 2 (by omega) G w.heap.size b o c N A cv hn hnc (fun h => ⟨(hA h).1, by have := (hA h).2; omega⟩) W4 hx3.lt hb4.size (fun j hj => (hb4.cell (p := ⟨b, o + j, none⟩) (show b < w.heap.size by have := (hA (by omega)).2; omega)).trans (hcell j hj)) hsl hx3.cell) K2.trans (fun W l o o' hl ho h1 h2 => ⟨belowK_b (w := W4) hb4.size W l o o' hl ho h1 h2, fun hG => World.putObj_heap_other (by have := hx3.lt; omega)⟩) (Below.refl _ _) (fun _ => rfl)
  (InvV ls N w A c G W4.heap.size) (OutV ls N w)
  (OwnFrom.and (Own.from (holdsRow_own w.heap.size (w.heap.size + 1 + 1) 28 23 2 (fun pre : List (Fin N) => pre.length) (fun pre => spanC2 (spansOf ls pre)) (fun _ _ => True)) _)
   (OwnFrom.and (OwnFrom.and (Own.from (boxed_own _ _ _) _) (OwnFrom.and (Own.from (boxed_own _ _ _) _) (Own.from (boxed_own _ _ _) _))) (OwnFrom.and (ownFrom_below (Nat.le_refl _) hb4.size) (OwnFrom.and (ownFrom_pure _ _) (fun s X Y row hs hg _ => Nat.le_trans hs hg.size)))))
  (fun cd => OwnFrom.and (ownFrom_pure _ _) (OwnFrom.and (OwnFrom.and (Own.from (boxed_own _ _ _) _)
   (fun s X Y row hs hg hrow => by obtain ⟨qs, x, e, hx⟩ := hs; exact ⟨qs, x, e, Own.from (boxed_own (w.heap.size + 1) 31 (fun v : Value => v)) W4.heap.size _ X Y row hx hg hrow⟩)) (ownFrom_below (Nat.le_refl _) hb4.size)))
  ⟨⟨_, hx2', World.ownsRow_nil _ _ _ _, trivial⟩, ⟨hx0', hx1', hx3⟩, hb4, (fun x hx => by cases hx), Nat.le_refl _⟩ (AxV cv A c G N w) (fun x a' => cells_own _ _ _ _) ?assign ?body ?done ?stop
 case assign =>
  intro l pre x W K hI hK
  obtain ⟨P0, q0, r0, y0⟩ := hsl (x.val * 3) (by have := x.isLt; omega)
  obtain ⟨P1, q1, r1, y1⟩ := hsl (x.val * 3 + 1) (by have := x.isLt; omega)
  obtain ⟨P2, q2, r2, y2⟩ := hsl (x.val * 3 + 2) (by have := x.isLt; omega)
  have hK2 := Lib.hid (fun g (W' : World) (h1 : KeepsFrom W4.heap.size W W') (h2 : K2 w.heap.size G W W') (h3 : InvV ls N w A c G W4.heap.size pre W') (h4 : W'.heap[g]? = some (.cells #[cv (x.val * 3), cv (x.val * 3 + 1), cv (x.val * 3 + 2)] 101)) => hK _ W' h1 h2 h3 ⟨g, h4, rfl⟩)
  clear hK
  rw [y0, y1, y2] at hK2
  unfold encK
  rw [y0, y1, y2]
  generalize lastV cv x.val = LV at *
  gi_wp2
  have hal := balloc W (.cells #[.slice P0 q0 r0, .slice P1 q1 r1, .slice P2 q2 r2] 101)
  obtain ⟨⟨v, i1, i2, -⟩, ⟨i3, i4, i9⟩, i5, i6, i7⟩ := hI
  exact hK2.out _ _ (keeps_below hal) (K2.of_below hal i5.size) ⟨⟨v, i1.alloc _, i2.alloc _, trivial⟩, ⟨i3.alloc _, i4.alloc _, i9.alloc _⟩, bgo i5 hal, i6, Nat.le_trans i7 hal.size⟩ (World.alloc_heap_new W _)
 case body =>
  rintro l pre x a' W hzl ⟨r, hr⟩ ⟨⟨v, i1, i2, -⟩, ⟨i3, i4, i9⟩, i5, i6, i7⟩ ⟨g, hg, rfl⟩ hlt
  have hx := x.isLt
  obtain ⟨P0, q0, r0, y0⟩ := hsl (x.val * 3) (by omega)
  obtain ⟨P1, q1, r1, y1⟩ := hsl (x.val * 3 + 1) (by omega)
  obtain ⟨P2, q2, r2, y2⟩ := hsl (x.val * 3 + 2) (by omega)
  obtain ⟨s0, s1, s2⟩ := hk3 x.val hx
  have s3 := last_sees hN (fun k hk => (hk3 k hk).2.2) x.val hx
  have hiB := i5.mono hB
  have hBW : B ≤ W.heap.size := Nat.le_trans hB i5.size
  replace s0 := (s0.below hiB).more hBW
  replace s1 := (s1.below hiB).more hBW
  replace s2 := (s2.below hiB).more hBW
  replace s3 := (s3.below hiB).more hBW
  have hal := hl _ (List.mem_of_getElem? (show ls[x.val]? = some (linkT ls x.val) by rw [linkT, List.getD_eq_getElem?_getD, List.getElem?_eq_getElem (by omega)]; rfl))
  have hLC : Hid (linkC ls x.val = if nonceC (lastA (ls.take x.val)) (linkT ls x.val).2.1 = 0 then dverC (linkT ls x.val).1 (linkN ls x.val) (linkT ls x.val).2.2 else nonceC (lastA (ls.take x.val)) (linkT ls x.val).2.1) := rfl
  have hNN : Hid (linkN ls x.val = nonceG (lastA (ls.take x.val)) (linkT ls x.val).2.1) := rfl
  have hLV : Hid (linkV ls x.val = (dverLo (linkT ls x.val).1 (linkN ls x.val) (linkT ls x.val).2.2, dverHi (linkT ls x.val).1 (linkN ls x.val) (linkT ls x.val).2.2)) := rfl
  rw [y0] at s0
  rw [y1] at s1
  rw [y2] at s2
  rw [y0, y1, y2] at hg ⊢
  generalize lastV cv x.val = LV at *
  have hno := nonce_any W.heap.size W.heap.size _ _ _ _ W s3 (Nat.le_refl _) s1 (Nat.le_refl _)
  unfold NonP at hno
  rw [← hNN.out] at hno
  generalize linkT ls x.val = t at *
  generalize linkN ls x.val = NN at *
  generalize nonceC (lastA (ls.take x.val)) t.2.1 = C1 at *
  obtain ⟨t1, t2, t3⟩ := t
  dsimp only at *
  have z1 : W.cell? ⟨g, 1, none⟩ = some (.slice P1 q1 r1) := by simp [World.cell?, hg]
  replace hno := Lib.hid hno
  have z0 : W.heap[g]? = some (.cells #[.slice P0 q0 r0, .slice P1 q1 r1, .slice P2 q2 r2] 101) := hg
  have hgl : g < W.heap.size := (Array.getElem?_eq_some_iff.1 z0).1
  clear hk3 hsl hcell hA s3 hu hx0' hx1' hx2' hx3
  gi_wp2
  refine ⟨trivial, CallsIn.inRound l ((callsIn_wide.2 hno.out).mono ?_)⟩
  rintro e w1 ⟨v1, rfl, f1, hb1⟩
  obtain ⟨Q1, d1, rfl, -, -⟩ := f1.sees.mk_
  have j3 : Boxed w1 w.heap.size 28 (.slice none 0 0) := (hb1.block _ i3.lt).trans i3
  have j4 : Boxed w1 (w.heap.size + 1) 31 (.int .i64 0) := (hb1.block _ i4.lt).trans i4
  have j1 : Boxed w1 (w.heap.size + 1 + 1) 28 v := (hb1.block _ i1.lt).trans i1
  have j2 := own_below i2 hb1
  have zz := (hb1.block _ hgl).trans z0
  replace s0 := seesB_of s0 (Nat.le_refl _) hb1
  replace s2 := seesB_of s2 (Nat.le_refl _) hb1
  have hbW := Lib.hid (bgo i5 hb1)
  clear hno z1 z0 hg
  by_cases hC : C1 = 0
  rotate_left
  · have c3 := j3.cell
    have c4 := j4.cell
    have d3 := j3.frozen
    have d4 := j4.frozen
    have hC' : Hid (linkC ls x.val = C1) := by show _ = _; rw [hLC.out, if_neg hC]
    have hne : Hid (C1 ≠ 0) := hC
    replace j3 := Lib.hid j3
    replace j4 := Lib.hid j4
    replace hb1 := Lib.hid hb1
    clear hLC hLV hNN
    gi_wp2
    exact outV_of j3.out j4.out (keeps_below hb1.out) hbW.out i6 hC'.out hne.out
  subst hC
  have hdv := dverify_any w1.heap.size _ _ _ t1 NN t3 w1 s0 f1.sees s2 (Nat.le_refl _) hal
  rw [if_pos rfl] at hLC
  generalize hC2 : dverC t1 NN t3 = C2 at *
  unfold DVerP at hdv
  rw [hC2] at hdv
  generalize dverLo t1 NN t3 = lo at *
  generalize dverHi t1 NN t3 = hi at *
  replace hdv := Lib.hid hdv
  have z0 : w1.cell? ⟨g, 0, none⟩ = some (.slice P0 q0 r0) := by simp [World.cell?, zz]
  have z2 : w1.cell? ⟨g, 2, none⟩ = some (.slice P2 q2 r2) := by simp [World.cell?, zz]
  clear s0 s2 f1 hNN hC2 zz
  gi_wp2
  refine ⟨trivial, CallsIn.inRound l ((callsIn_wide.2 hdv.out).mono ?_)⟩
  rintro e w2 ⟨rfl, hb2⟩
  have hal2 := balloc w2 (.cells #[.int .i64 lo, .int .i64 hi] 23)
  have hb3 := bgo hb2 hal2
  have k3 : Boxed (w2.alloc (.cells #[.int .i64 lo, .int .i64 hi] 23)) w.heap.size 28 (.slice none 0 0) := (hb3.block _ j3.lt).trans j3
  have k4 : Boxed (w2.alloc (.cells #[.int .i64 lo, .int .i64 hi] 23)) (w.heap.size + 1) 31 (.int .i64 0) := (hb3.block _ j4.lt).trans j4
  have k1 : Boxed (w2.alloc (.cells #[.int .i64 lo, .int .i64 hi] 23)) (w.heap.size + 1 + 1) 28 v := (hb3.block _ j1.lt).trans j1
  have k2 := own_below j2 hb3
  have hbW3 := Lib.hid (bgo hbW.out hb3)
  have hb13 := Lib.hid (bgo hb1 hb3)
  obtain ⟨x0, x1⟩ := boxT2 (Box.new w2 23 [.int .i64 lo, .int .i64 hi])
  change (w2.alloc (.cells #[.int .i64 lo, .int .i64 hi] 23)).cell? _ = _ at x0 x1
  clear hdv z0 z2 j1 j2 j3 j4 hbW hb1 hb2 hb3 hal2
  dsimp only
  gi_upto_region 11 with (fail)
  generalize w2.alloc (.cells #[.int .i64 lo, .int .i64 hi] 23) = W5 at *
  generalize w2.heap.size = gz at *
  by_cases hC : C2 = 0
  rotate_left
  · have c3 := k3.cell
    have c4 := k4.cell
    have d3 := k3.frozen
    have d4 := k4.frozen
    have hne : Hid (C2 ≠ 0) := hC
    replace k3 := Lib.hid k3
    replace k4 := Lib.hid k4
    clear hLV
    gi_wp2
    exact outV_of k3.out k4.out (keeps_below hb13.out) hbW3.out i6 hLC.out hne.out
  subst hC
  have hc1 := k1.cell
  obtain ⟨ti, hti, htz, hts, htb⟩ := info_parts span_info
  replace hti := Lib.hid hti
  replace htz := Lib.hid htz
  replace hts := Lib.hid hts
  replace htb := Lib.hid htb
  replace k3 := Lib.hid k3
  replace k4 := Lib.hid k4
  replace k1 := Lib.hid k1
  have hrow := Lib.hid (k2.alloc (.cells #[.int .i64 lo, .int .i64 hi] 23))
  replace k2 := Lib.hid k2
  have hpl : Hid (pre.length ≤ 8) := by show _ ≤ _; omega
  have hsz : Hid (w.heap.size ≤ W5.heap.size) := hbW3.out.size
  gi_wp2_with (gi_at_builtin; refine wpListIn_append_own_at _ rfl (.tmp 39) (.tmp 41) 28 rfl w.heap.size 23 ti (.agg #[.int .i64 0, .int .i64 0]) 2 16 Tryz.underlying28 hti.out htz.out hts.out htb.out rfl (by decide) v pre.length (spanC2 (spansOf ls pre)) rfl hrow.out ⟨W5.heap.size, 0, none⟩ 1 1 [.int .i64 lo, .int .i64 hi] rfl rfl (cells_two _ _ _ _) (by simp [Value.oneCell']) (by have := hpl.out; unfold maxLen; omega) (by have := hpl.out; omega) (Nat.le_trans hsz.out (by simp)) ?_; intro v' w6 hown' hgrow _ _; obtain ⟨g', cap', rfl⟩ := ownsRow_succ hown'; obtain ⟨hv1, hv2, hr2, hk2, hb2⟩ := k1.out.appended (by decide) k2.out hsz.out (Nat.le_trans (Nat.le_succ _) (Nat.le_succ _)) hown' hgrow; have hc6 := hv1.cell; have hf6 := hv1.frozen)
  have hsp : Hid (spansOf ls (pre ++ [x]) = spansOf ls pre ++ [(lo, hi)]) := by show _ = _; rw [spansOf, List.map_append, ← hLV.out]; rfl
  have hlen : (pre ++ [x]).length = pre.length + 1 := by simp
  have m5 : Boxed W5 G 26 (.slice A N c) := (hb13.out.block _ i9.lt).trans i9
  have q9 := ((m5.alloc (.cells #[.int .i64 lo, .int .i64 hi] 23)).kept hgrow (m5.not_row (by decide) k2.out)).other (B' := w.heap.size + 1 + 1) (by have := hGn.out; omega) (.slice (some ⟨g', 0, none⟩) (pre.length + 1) cap')
  have q3 := ((k3.out.alloc (.cells #[.int .i64 lo, .int .i64 hi] 23)).kept hgrow (k3.out.not_row (by decide) k2.out)).other (B' := w.heap.size + 1 + 1) (by omega) (.slice (some ⟨g', 0, none⟩) (pre.length + 1) cap')
  have q4 := ((k4.out.alloc (.cells #[.int .i64 lo, .int .i64 hi] 23)).kept hgrow (k4.out.not_row (by decide) k2.out)).other (B' := w.heap.size + 1 + 1) (by omega) (.slice (some ⟨g', 0, none⟩) (pre.length + 1) cap')
  refine ⟨(keeps_below hb13.out).trans (hk2.from _), (K2.of_below hb13.out i5.size).trans ⟨hb2, fun hG => q9.trans m5.symm⟩, ⟨_, hv2, ?_, trivial⟩, ⟨q3, q4, q9⟩, hbW3.out.trans hb2, fun y hy => ?_, Nat.le_trans i7 (Nat.le_trans hb13.out.size hb2.size)⟩
  · rw [hsp.out, hlen]
    have e : spanC2 (spansOf ls pre ++ [(lo, hi)]) = spanC2 (spansOf ls pre) ++ [.int .i64 lo, .int .i64 hi] := by simp [spanC2]
    rw [e]
    exact hr2
  · rcases List.mem_append.1 hy with h | h
    · exact i6 y h
    · obtain rfl := List.mem_singleton.1 h
      exact hLC.out
 case done =>
  rintro D xs W hD rfl ⟨⟨v, i1, i2, -⟩, ⟨i3, i4, i9⟩, i5, i6, i7⟩ hK
  rw [finT_len N N (Nat.le_refl _), show spansOf ls (finT N N) = cverK ls N from finT_map N _] at i2
  have hz : cverC ls = 0 := by rw [hCC.out]; exact first_all ls N fun j hj => i6 _ (finT_mem N N j (Nat.le_refl _) hj)
  obtain ⟨A', c', rfl, -, -⟩ := (Sees.of_own i2).mk_
  have c1 := i1.cell
  have c3 := i3.cell
  have c4 := i4.cell
  have d3 := i3.frozen
  have d4 := i4.frozen
  have hD0 : W4.heap.size ≤ D := hD
  have hg4 := hb4.size
  have n0 := hGn.out
  have n1 := hx3.lt
  replace i1 := Lib.hid i1
  replace i2 := Lib.hid i2
  replace i3 := Lib.hid i3
  replace i4 := Lib.hid i4
  replace hz := Lib.hid hz
  clear hu hcell hsl hk3 hA i6 i9 i7
  gi_wp2
  have hne0 : D ≠ w.heap.size := by omega
  have hne1 : D ≠ w.heap.size + 1 := by omega
  have hK' : ((W.setCell ⟨w.heap.size, 0, none⟩ (.slice A' N c')).setCell ⟨w.heap.size + 1, 0, none⟩ (.int .i64 0)).heap[D]? = some (.deferred (some [])) := by
   rw [Below.heap_setCell _ ⟨w.heap.size + 1, 0, none⟩ _ D hne1, Below.heap_setCell _ ⟨w.heap.size, 0, none⟩ _ D hne0]
   exact hK
  have hbS : Below w.heap.size w ((W.setCell ⟨w.heap.size, 0, none⟩ (.slice A' N c')).setCell ⟨w.heap.size + 1, 0, none⟩ (.int .i64 0)) := (i5.setCell (p := ⟨w.heap.size, 0, none⟩) (Nat.le_refl _) _).setCell (p := ⟨w.heap.size + 1, 0, none⟩) (Nat.le_succ _) _
  have y3 : Boxed ((W.setCell ⟨w.heap.size, 0, none⟩ (.slice A' N c')).setCell ⟨w.heap.size + 1, 0, none⟩ (.int .i64 0)) w.heap.size 28 (.slice A' N c') := (i3.out.set _).other (by omega) _
  have y4 : Boxed ((W.setCell ⟨w.heap.size, 0, none⟩ (.slice A' N c')).setCell ⟨w.heap.size + 1, 0, none⟩ (.int .i64 0)) (w.heap.size + 1) 31 (.int .i64 0) := (i4.out.other (by omega) _).set _
  have y2 := ownsRow_setCell_other (ownsRow_setCell_other i2.out (a := ⟨w.heap.size, 0, none⟩) (fun e => i3.out.not_row (by decide) i2.out e.symm) (.slice A' N c')) (a := ⟨w.heap.size + 1, 0, none⟩) (fun e => i4.out.not_row (by decide) i2.out e.symm) (.int .i64 0)
  generalize (W.setCell ⟨w.heap.size, 0, none⟩ (.slice A' N c')).setCell ⟨w.heap.size + 1, 0, none⟩ (.int .i64 0) = W6 at *
  refine ⟨by simp, .inl ⟨_, _, rfl, run_takeDeferred hK', ?_⟩⟩
  have u3 : Boxed (W6.putObj D (.deferred none)) w.heap.size 28 (.slice A' N c') := (World.putObj_heap_other (fun e => hne0 e.symm)).trans y3
  have u4 : Boxed (W6.putObj D (.deferred none)) (w.heap.size + 1) 31 (.int .i64 0) := (World.putObj_heap_other (fun e => hne1 e.symm)).trans y4
  have u2 := ownsRow_putObj y2 (.deferred none) hK' rfl
  have hbT : Below w.heap.size w (W6.putObj D (.deferred none)) := hbS.trans (belowK_b (w := w) (Nat.le_refl _) W6 D _ _ (by omega) hK' rfl rfl)
  generalize W6.putObj D (.deferred none) = W7 at *
  have z3 := u3.cell
  have z4 := u4.cell
  refine ⟨.tuple #[.slice A' N c', .int .i64 0], by simp [results, Tryz.results59, go_sem, z3, z4], ?_⟩
  exact cver_ok hz.out (by rw [hN]; exact spanC2_row u2 (cverK_len _ _)) hbT
 case stop =>
  rintro D cd pre W hD ⟨k, hk, rfl⟩ ⟨⟨rfl, qs, x, e1, e2, e3, -⟩, ⟨i3, qs', x', e4, i4⟩, i5⟩ hK
  rw [e1] at e4
  obtain ⟨rfl, hx'⟩ := List.append_inj' e4 rfl
  obtain rfl := List.singleton_inj.1 hx'
  clear e4 hx'
  have hz : cverC ls = linkC ls x.val := by
   have hkl : k = qs.length + 1 := by have := congrArg List.length e1; rw [finT_len N k hk, List.length_append] at this; exact this
   have hxv : x.val = qs.length := by
    have h1 : (finT N k)[qs.length]? = (qs ++ [x])[qs.length]? := by rw [e1]
    rw [List.getElem?_append_right (Nat.le_refl _), Nat.sub_self, finT, List.getElem?_take, if_pos (by omega), List.getElem?_eq_getElem (by simp; omega)] at h1
    simp at h1
    rw [← h1]
   have hpre : firstC ls x.val = 0 := first_all ls x.val fun j hj => by
    have hm := finT_mem N k j hk (by omega)
    rw [e1] at hm
    rcases List.mem_append.1 hm with h | h
    · exact e2 _ h
    · have := List.mem_singleton.1 h
      rw [← this] at hj
      exact absurd hj (Nat.lt_irrefl _)
   rw [hCC.out]
   exact first_bad ls x.val N hpre e3 x.isLt
  generalize linkC ls x.val = C at *
  have c3 := i3.cell
  have c4 := i4.cell
  have hD0 : W4.heap.size ≤ D := hD
  have hg4 := hb4.size
  have n0 := hGn.out
  have n1 := hx3.lt
  replace hz := Lib.hid hz
  replace e3 := Lib.hid e3
  replace i3 := Lib.hid i3
  replace i4 := Lib.hid i4
  clear hu hcell hsl hk3 hA e1 e2
  gi_wp2
  have hne0 : D ≠ w.heap.size := by omega
  have hne1 : D ≠ w.heap.size + 1 := by omega
  refine ⟨by simp, .inl ⟨_, _, rfl, run_takeDeferred hK, ?_⟩⟩
  have u3 : Boxed (W.putObj D (.deferred none)) w.heap.size 28 (.slice none 0 0) := (World.putObj_heap_other (fun e => hne0 e.symm)).trans i3.out
  have u4 : Boxed (W.putObj D (.deferred none)) (w.heap.size + 1) 31 (.int .i64 C) := (World.putObj_heap_other (fun e => hne1 e.symm)).trans i4.out
  have hbT : Below w.heap.size w (W.putObj D (.deferred none)) := i5.trans (belowK_b (w := w) (Nat.le_refl _) W D _ _ (by omega) hK rfl rfl)
  generalize W.putObj D (.deferred none) = W7 at *
  have z3 := u3.cell
  have z4 := u4.cell
  exact ⟨.tuple #[.slice none 0 0, .int .i64 C], by simp [results, Tryz.results59, go_sem, z3, z4], cver_bad hz.out e3.out hbT⟩
set_option maxRecDepth 100000 in
theorem cverify_any (B : Nat) (u : Value) (ls : List LinkG) (w : World) (hu : SeesR w B u 3 ls.length (linkS ls)) (hB : B ≤ w.heap.size) (hn : ls.length ≤ 1048576) (hl : ∀ t ∈ ls, t.2.2.length ≤ 1048576) :
 Calls Tryz.prog 59 #[u] w (CVerP ls w) := by
 by_cases h8 : ls.length ≤ 8
 · exact callsIn_wide.1 (cver_in B u ls w hu hB h8 hl)
 · obtain ⟨A, c, rfl, -, -⟩ := hu.mk_
   have i0 : (8 : Int) < (ls.length : Int) := by omega
   have hC : Hid (cverC ls = 8) := by show _ = _; rw [cverC, if_pos (by omega)]
   clear hu hl
   go_enter Tryz.func59, Tryz.ntmps59
   go_wp2_with fail
   have hb8 := bgo (balloc w (.cells #[.slice none 0 0] 28)) (balloc _ (.cells #[.int .i64 8] 31))
   have z3 := ((Boxed.new w 28 (.slice none 0 0)).alloc (.cells #[.int .i64 8] 31)).cell
   have z4 := (Boxed.new (w.alloc (.cells #[.slice none 0 0] 28)) 31 (.int .i64 8)).cell
   rw [World.size_alloc] at z4
   generalize (w.alloc (.cells #[.slice none 0 0] 28)).alloc (.cells #[.int .i64 8] 31) = W7 at *
   refine bodyPost_ret (v := .tuple #[.slice none 0 0, .int .i64 8]) (by simp [results, Tryz.results59, go_sem, z3, z4]) rfl ?_
   exact cver_bad hC.out (by decide) hb8
theorem SeesR.cut {w : World} {B size n c a b : Nat} {A : Option Addr} {ss : List Spec} (h : SeesR w B (.slice A n c) size n ss) (hab : a ≤ b) (hb : b ≤ n) :
 SeesR w B (.slice (cutA A c a size) (b - a) (c - a)) size (b - a) ((ss.drop (a * size)).take ((b - a) * size)) := by
 obtain ⟨h0, vs, hs, hv⟩ := h
 have hm : (b - a) * size + a * size ≤ n * size := by
  rw [← Nat.add_mul]; exact Nat.mul_le_mul_right _ (by omega)
 refine ⟨by rw [List.length_take, List.length_drop, h0]; omega, _, hs.cut hab hb, fun k s hk => ?_⟩
 have hkl : k < (b - a) * size := by
  have := (List.getElem?_eq_some_iff.1 hk).1
  rw [List.length_take] at this; omega
 rw [List.getElem?_take, if_pos hkl, List.getElem?_drop] at hk ⊢
 exact hv _ s hk
section
variable {w W : World} {g n c base size : Nat} {T : TypeId} {v : Value} {ss : List Spec}
theorem OwnRF.at_ (h : OwnRF w base T v size n ss) (h0 : 0 < n) : ∃ g c, v = .slice (some ⟨g, 0, none⟩) n c ∧ base ≤ g ∧ g < w.heap.size ∧ n ≤ c ∧ c ≤ maxLen := by
 have hlt := h.own.lt
 obtain ⟨_, vs, h1, _⟩ := h
 rcases h1.2 with ⟨_, hz⟩ | ⟨g, cap, cur, rfl, hb, hg, hc1, hc2, _⟩
 · omega
 · exact ⟨g, cap, rfl, hb, (hlt g rfl).2, hc1, hc2⟩
theorem elt_grown {u : Value} {s : Spec} (h : EltS w v u s) (hg : w.grownBy W v.ownBlock) : EltS W v u s := by
 cases s with
 | val x => exact h
 | byt l => exact ⟨Elt.grown h hg, h.2⟩
theorem OwnRF.put {u : Value} {s : Spec} {j : Nat} (h : OwnRF w base T (.slice (some ⟨g, 0, none⟩) n c) size n ss) (hj : j < n * size) (he : EltS w (.slice (some ⟨g, 0, none⟩) n c) u s) (hf : From base u) :
 OwnRF (w.setCell ⟨g, j, none⟩ u) base T (.slice (some ⟨g, 0, none⟩) n c) size n (ss.set j s) := by
 obtain ⟨h0, vs, h1, h2⟩ := h
 have hg := setCell_grown w g j u
 rcases h1.2 with ⟨e, _⟩ | ⟨g', cap, cur, e, hb, hh, hc1, hc2, hcs, htk⟩
 · cases e
 · injection e with e1 _ e3
   injection e1 with e1
   injection e1 with e1
   subst e1 e3
   have hB : Box w g T cur.toList := hh
   have hB' := hB.set j u
   have hvl : vs.length = n * size := h1.1
   refine ⟨by rw [List.length_set, h0], vs.set j u, ⟨by rw [List.length_set, hvl], .inr ⟨g, c, (cur.toList.set j u).toArray, rfl, hb, hB', hc1, hc2, by simp [hcs], ?_⟩⟩, fun k t hk => ?_⟩
   · rw [← htk]
     simp [List.take_set]
   · by_cases hkj : k = j
     · subst hkj
       rw [List.getElem?_set_self (by omega)] at hk ⊢
       cases hk
       exact ⟨u, rfl, elt_grown he hg, hf⟩
     · rw [List.getElem?_set_ne (fun e => hkj e.symm)] at hk ⊢
       obtain ⟨y, e1, e2, e3⟩ := h2 k t hk
       exact ⟨y, e1, elt_grown e2 hg, e3⟩
theorem OwnRF.frozen (h : OwnRF w base T (.slice (some ⟨g, 0, none⟩) n c) size n ss) (j : Nat) : w.frozen? ⟨g, j, none⟩ = false := by
 obtain ⟨_, vs, h1, _⟩ := h
 rcases h1.2 with ⟨e, _⟩ | ⟨g', cap, cur, e, _, hh, _⟩
 · cases e
 · injection e with e1 _ e3
   injection e1 with e1
   injection e1 with e1
   subst e1
   have hB : Box w g T cur.toList := hh
   exact hB.frozen j
theorem OwnRF.cell {j : Nat} {s : Spec} (h : OwnRF w base T (.slice (some ⟨g, 0, none⟩) n c) size n ss) (h0 : 0 < n) (hj : ss[j]? = some s) : ∃ u, w.cell? ⟨g, j, none⟩ = some u ∧ EltS w (.slice (some ⟨g, 0, none⟩) n c) u s ∧ From base u := by
 obtain ⟨_, vs, h1, h2⟩ := h
 obtain ⟨u, e1, e2, e3⟩ := h2 j s hj
 obtain ⟨b, o, e4, hb, hcell⟩ := (Sees.of_own h1).at_ h0
 injection e4 with e5
 injection e5 with e6 e7
 subst e6 e7
 have := hcell j u e1
 rw [Nat.zero_add] at this
 exact ⟨u, this, e2, e3⟩
end
def LkS (w : World) (v : Value) (W : World) : Prop :=
 ∃ ls : List LinkG, SeesR W W.heap.size v 3 ls.length (linkS ls) ∧ ls.length ≤ 8 ∧ (∀ t ∈ ls, t.1.length ≤ 2048 ∧ t.2.1.length ≤ 2048 ∧ t.2.2.length ≤ 2048) ∧ Below w.heap.size w W
theorem LkS.drew {w W : World} {v : Value} (h : LkS w v W) : LkS w v W.drew := by
 obtain ⟨ls, h1, h2, h3, h4⟩ := h
 exact ⟨ls, (h1.below (bdrew W)).more (bdrew W).size, h2, h3, bgo h4 (bdrew W)⟩
def agB (ls : List LinkG) (V : List (Int × Int)) (i j : Nat) : Bool := ((linkT ls i).1 == (linkT ls j).1) && decide ((V.getD j (0, 0)).2 < (V.getD i (0, 0)).1)
theorem noB_pf (A : Option Addr) (n c : Nat) (a b : Int) : NoByte [Value.slice A n c, .int .i64 a, .int .i64 b] := by
 intro x hx n e
 simp only [List.mem_cons, List.not_mem_nil, or_false] at hx
 rcases hx with rfl | rfl | rfl <;> cases e
theorem OwnR.pokes {w : World} {base k size g : Nat} {T T' : TypeId} {v : Value} {ss : List Spec} (h : OwnR w base T v size k ss) (hG : g < base) (hbx : Box w g T' [.slice none 0 0, .int .i64 0, .int .i64 0]) (A : Option Addr) (n c : Nat) (a b : Int) : OwnR (((w.setCell ⟨g, 0, none⟩ (.slice A n c)).setCell ⟨g, 1, none⟩ (.int .i64 a)).setCell ⟨g, 2, none⟩ (.int .i64 b)) base T v size k ss := by
 have h1 := h.poke (j := 0) (v' := .slice A n c) hG hbx (noB_pf none 0 0 0 0)
 have b1 := hbx.set 0 (.slice A n c)
 simp only [List.set_cons_zero] at b1
 have h2 := h1.poke (j := 1) (v' := .int .i64 a) hG b1 (noB_pf _ _ _ _ _)
 have b2 := b1.set 1 (.int .i64 a)
 simp only [List.set_cons_zero, List.set_cons_succ] at b2
 exact h2.poke hG b2 (noB_pf _ _ _ _ _)
theorem cverV_len {ls : List LinkG} (h : cverC ls = 0) : (cverV ls).length = ls.length := by unfold cverV; rw [if_pos h, cverK_len]
def FDecR (w' : World) (e : Ending) : Option (List Lk × Nat × Nat) → Prop
 | none => e = .returned (.tuple #[.agg #[.slice none 0 0, .int .i64 0, .int .i64 0], .int .i64 3])
 | some p => ∃ v, e = .returned (.tuple #[.agg #[v, .int .i64 (p.2.1 : Int), .int .i64 (p.2.2 : Int)], .int .i64 0]) ∧ SeesR w' w'.heap.size v 3 p.1.length (linkS p.1)
def FDecQ (w' : World) (e : Ending) : Option (List Fd) → Prop
 | none => e = .returned (.tuple #[.agg #[.slice none 0 0, .int .i64 0, .int .i64 0], .int .i64 1])
 | some l => ∃ o, DecL l o ∧ FDecR w' e o
def FDecP (b : Bs) (w : World) (e : Ending) (w' : World) : Prop := ∃ o, FieldsR b o ∧ FDecQ w' e o ∧ Below w.heap.size w w'
theorem fdec_short {b : Bs} (hR : FieldsR b none) {w w' : World} (hb : Below w.heap.size w w') : FDecP b w (.returned (.tuple #[.agg #[.slice none 0 0, .int .i64 0, .int .i64 0], .int .i64 1])) w' := ⟨none, hR, rfl, hb⟩
theorem fdec_bad {b : Bs} {l : List Fd} (hR : FieldsR b (some l)) (hD : DecL l none) {w w' : World} (hb : Below w.heap.size w w') : FDecP b w (.returned (.tuple #[.agg #[.slice none 0 0, .int .i64 0, .int .i64 0], .int .i64 3])) w' := ⟨some l, hR, ⟨none, hD, rfl⟩, hb⟩
theorem fdec_good {b : Bs} {l : List Fd} {ls : List Lk} {f s : Nat} (hR : FieldsR b (some l)) (hD : DecL l (some (ls, f, s))) {w w' : World} {v : Value} (hs : SeesR w' w'.heap.size v 3 ls.length (linkS ls)) (hb : Below w.heap.size w w') : FDecP b w (.returned (.tuple #[.agg #[v, .int .i64 (f : Int), .int .i64 (s : Int)], .int .i64 0])) w' := ⟨some l, hR, ⟨_, hD, v, rfl, hs⟩, hb⟩
theorem exK_take {l : List Fd} {m k : Nat} (h : k < m) : (exK l m).take (k + 1) = (exK l m).take k ++ [trip l k] := by
 rw [List.take_add_one, exK_get l h]; rfl
def AddQD (W7 w1 : World) (g7 k : Nat) (x y : UInt8) (ss : List Spec) (v : Value) (W : World) : Prop :=
 Box W g7 30 [v, .int .i64 (x.toNat : Int), .int .i64 (y.toNat : Int)] ∧ OwnR W W7.heap.size 101 v 3 (k + 1) ss ∧ Below w1.heap.size w1 W ∧ W7.heap.size ≤ W.heap.size
theorem addQD_done {W7 w1 w' : World} {g7 k cv nv : Nat} {x y : UInt8} {ss : List Spec} {v' : Value} {Av : Option Addr} (hx : Box w' g7 30 [.slice Av nv cv, .int .i64 (x.toNat : Int), .int .i64 (y.toNat : Int)]) (ho : OwnR w' W7.heap.size 101 v' 3 (k + 1) ss) (hb : Below w1.heap.size w1 w') (hg : g7 < W7.heap.size) (hg1 : w1.heap.size ≤ g7) (hz : W7.heap.size ≤ w'.heap.size) :
 AddQD W7 w1 g7 k x y ss v' (w'.setCell ⟨g7, 0, none⟩ v') :=
 ⟨by have := hx.set 0 v'; simpa only [List.set_cons_zero] using this, ho.poke hg hx (noB_pf _ _ _ _ _), hb.setCell (p := ⟨g7, 0, none⟩) hg1 v', by simpa [World.setCell] using hz⟩
theorem fenc_big {ls : List Lk} {f s : Int} (h : 8 < ls.length) {w w' : World} {e : Ending} (hp : FEncP ls f s w e w') : ∃ v, e = .returned (.tuple #[v, .int .i64 8]) ∧ OwnB w' w.heap.size v (fencB ls f s) ∧ Below w.heap.size w w' := by
 obtain ⟨v, h1, h2, h3⟩ := hp
 have hc : fencC ls f s = 8 := by unfold fencC; rw [if_pos h]
 rw [hc] at h1
 exact ⟨v, h1, h2, h3⟩
theorem fenc_fit {ls : List Lk} {x y : UInt8} (h : ls.length ≤ 8) {w w' : World} {e : Ending} (hp : FEncP ls (x.toNat : Int) (y.toNat : Int) w e w') : ∃ v, e = .returned (.tuple #[v, .int .i64 0]) ∧ OwnB w' w.heap.size v (wrF (encF ls x.toNat y.toNat)) ∧ Below w.heap.size w w' := by
 obtain ⟨v, h1, h2, h3⟩ := hp
 have hx := x.toNat_lt
 have hy := y.toNat_lt
 have hc : fencC ls (x.toNat : Int) (y.toNat : Int) = 0 := by unfold fencC; rw [if_neg (by omega), if_pos (by omega)]
 rw [fencB, if_pos hc] at h2
 rw [hc] at h1
 exact ⟨v, h1, h2, h3⟩
theorem trip3_elts {w : World} {v x y z : Value} {a b c : Bs} (h1 : EltS w v x (.byt a)) (h2 : EltS w v y (.byt b)) (h3 : EltS w v z (.byt c)) : ∀ (k : Nat) (s : Spec), (linkS [(a, b, c)])[k]? = some s → ∃ u, [x, y, z][k]? = some u ∧ EltS w v u s := by
 intro k s hk
 match k, hk with
 | 0, hk => cases hk; exact ⟨_, rfl, h1⟩
 | 1, hk => cases hk; exact ⟨_, rfl, h2⟩
 | 2, hk => cases hk; exact ⟨_, rfl, h3⟩
 | k + 3, hk => simp [linkS] at hk
theorem fd_atD {w : World} {B n c : Nat} {A : Option Addr} {l : List Fd} (h : SeesR w B (.slice A n c) 2 n (fdS l)) {k : Nat} (hk : k < l.length) :
 ∃ b o A1 c1, A = some ⟨b, o, none⟩ ∧ b < B ∧ w.cell? ⟨b, o + k * 2, none⟩ = some (.int .i64 ((l.getD k (0, [])).1 : Int)) ∧ w.cell? ⟨b, o + k * 2 + 1, none⟩ = some (.slice A1 (l.getD k (0, [])).2.length c1) ∧ SeesB w B (.slice A1 (l.getD k (0, [])).2.length c1) (l.getD k (0, [])).2 := by
 refine fd_at h k _ ?_
 rw [List.getD_eq_getElem?_getD, List.getElem?_eq_getElem hk]; rfl
end Go.Proofs.YtgehkgjllhkhoaaGreat

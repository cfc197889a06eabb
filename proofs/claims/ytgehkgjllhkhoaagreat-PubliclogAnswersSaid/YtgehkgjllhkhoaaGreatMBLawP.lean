/- What a law leans on beyond the base: contracts, plain functions, walks. Conditions: those of each theorem. -/
import Derived.Test.YtgehkgjllhkhoaaGreatMDecB
set_option linter.unusedVariables false
set_option linter.unusedSimpArgs false
namespace Go.Proofs.YtgehkgjllhkhoaaGreat
open Go Go.RowKit
set_option linter.unusedVariables false
def DecOut (b : Bs) (ls : List Lk) (f s : Int) (c : Int) : Prop :=
 ∃ o, FieldsR b o ∧ match o with
  | none => ls = [] ∧ f = 0 ∧ s = 0 ∧ c = 1
  | some l => ∃ d, DecL l d ∧ match d with
    | none => ls = [] ∧ f = 0 ∧ s = 0 ∧ c = 3
    | some p => ls = p.1 ∧ f = (p.2.1 : Int) ∧ s = (p.2.2 : Int) ∧ c = 0
theorem DecOut.uniq {b : Bs} {ls ls' : List Lk} {f f' s s' c c' : Int} (h : DecOut b ls f s c) (h' : DecOut b ls' f' s' c') : ls = ls' ∧ f = f' ∧ s = s' ∧ c = c' := by
 obtain ⟨o, h1, h2⟩ := h
 obtain ⟨o', h1', h2'⟩ := h'
 obtain rfl := h1.uniq h1'
 cases o with
 | none =>
   obtain ⟨rfl, rfl, rfl, rfl⟩ := h2
   obtain ⟨rfl, rfl, rfl, rfl⟩ := h2'
   exact ⟨rfl, rfl, rfl, rfl⟩
 | some l =>
   obtain ⟨d, h3, h4⟩ := h2
   obtain ⟨d', h3', h4'⟩ := h2'
   obtain rfl := h3.uniq h3'
   cases d with
   | none =>
     obtain ⟨rfl, rfl, rfl, rfl⟩ := h4
     obtain ⟨rfl, rfl, rfl, rfl⟩ := h4'
     exact ⟨rfl, rfl, rfl, rfl⟩
   | some p =>
     obtain ⟨rfl, rfl, rfl, rfl⟩ := h4
     obtain ⟨rfl, rfl, rfl, rfl⟩ := h4'
     exact ⟨rfl, rfl, rfl, rfl⟩
theorem DecOut.few {b : Bs} {ls : List Lk} {f s c : Int} (h : DecOut b ls f s c) : ls.length ≤ 1048576 := by
 obtain ⟨o, h1, h2⟩ := h
 cases o with
 | none => obtain ⟨rfl, -⟩ := h2; simp
 | some l =>
   obtain ⟨d, h3, h4⟩ := h2
   cases d with
   | none => obtain ⟨rfl, -⟩ := h4; simp
   | some p => obtain ⟨rfl, -⟩ := h4; have := h3.2.1; omega
theorem decOut_of {b : Bs} {w w' : World} {e : Ending} (h : FDecP b w e w') : ∃ ls f s c v, DecOut b ls f s c ∧ e = .returned (.tuple #[.agg #[v, .int .i64 f, .int .i64 s], .int .i64 c]) ∧ SeesR w' w'.heap.size v 3 ls.length (linkS ls) ∧ Below w.heap.size w w' := by
 obtain ⟨o, h1, h2, hb⟩ := h
 cases o with
 | none => exact ⟨[], 0, 0, 1, .slice none 0 0, ⟨none, h1, rfl, rfl, rfl, rfl⟩, h2, SeesR.nil _ _ _, hb⟩
 | some l =>
   obtain ⟨d, h3, h4⟩ := h2
   cases d with
   | none => exact ⟨[], 0, 0, 3, .slice none 0 0, ⟨some l, h1, none, h3, rfl, rfl, rfl, rfl⟩, h4, SeesR.nil _ _ _, hb⟩
   | some p =>
     obtain ⟨v, h5, h6⟩ := h4
     exact ⟨p.1, _, _, 0, v, ⟨some l, h1, some p, h3, rfl, rfl, rfl, rfl⟩, h5, h6, hb⟩
set_option linter.unusedSimpArgs false
attribute [local go_sem ↓] Go.wp_at_zero Go.wp_at_succ
set_option maxRecDepth 100000 in
set_option maxHeartbeats 8000000 in
theorem rfields_any (B : Nat) (u : Value) (b : Bs) (w : World) (hu : SeesB w B u b) (hB : B ≤ w.heap.size) (hn : b.length ≤ 65535) :
 Calls Tryz.prog 162 #[u] w (FieldsP b w) := by
 obtain ⟨A, c, rfl, hbc, hcm⟩ := hu.mk_
 unfold maxLen at hcm
 obtain ⟨ti, hti, htz, hts, htb⟩ := info_parts field_info
 replace hti := Lib.hid hti
 replace htz := Lib.hid htz
 replace hts := Lib.hid hts
 replace htb := Lib.hid htb
 have i0 : ¬ (65535 : Int) < (b.length : Int) := by omega
 replace hu := Lib.hid hu
 go_enter Tryz.func162, Tryz.ntmps162
 go_wp2_with fail
 go_loopw [4, 5] (fun o r wr => ∃ (i : Nat) (out : List Fd), i ≤ b.length ∧ r = .int .i64 i ∧ Hid (wrF out = b.take i) ∧ Hid (∀ f ∈ out, okF f) ∧ Hid (OwnRF wr w.heap.size 113 o 2 out.length (fdS out)) ∧ Hid (Below w.heap.size w wr)) (fun _ r _ => b.length - (intOf r).toNat)
 case atStart => exact ⟨0, [], by omega, rfl, rfl, fun f hf => (by cases hf), OwnRF.nil _ _ _ _, Below.refl _ _⟩
 case round =>
  clear i0
  obtain ⟨i, out, hi, rfl, hw, hok, ho, hb⟩ := hrel
  have hno := Lib.hid (fun (h0 : i < b.length) h => fields_no hok.out hw.out h0 h)
  have hst := Lib.hid (fun h1 h2 => fields_step hok.out hw.out h1 h2)
  have hend := Lib.hid (fun h0 => fields_end hok.out hw.out h0)
  obtain ⟨Ao, co, rfl, -, -⟩ := ho.out.own.sees.mk_
  by_cases h0 : b.length ≤ i
  · have i1 : ¬ (i : Int) < (b.length : Int) := by omega
    have hr := Lib.hid (hend.out (by omega))
    clear hno hst hend
    go_wp2_with fail
    go_returns
    exact ⟨some out, hr.out, ⟨_, rfl, ho.out⟩, hb.out⟩
  have i1 : (i : Int) < (b.length : Int) := by omega
  have hib : (b.length : Int) ≤ 65535 := by omega
  by_cases h4 : b.length - i < 4
  · have i2 : (b.length : Int) - (i : Int) < 4 := by omega
    have hr := Lib.hid (hno.out (by omega) (.inl (by omega)))
    clear hno hst hend
    go_wp2_with fail
    go_returns
    exact ⟨none, hr.out, rfl, hb.out⟩
  have i2 : ¬ (b.length : Int) - (i : Int) < 4 := by omega
  have hql : (b.drop i).length = b.length - i := List.length_drop
  obtain ⟨n, hnd⟩ : ∃ n, ndF (b.drop i) = n := ⟨_, rfl⟩
  obtain ⟨ty, hty⟩ : ∃ t, tyF (b.drop i) = t := ⟨_, rfl⟩
  have hn2 := ndF_lt (r := b.drop i) (by omega)
  have ht2 := tyF_lt (r := b.drop i) (by omega)
  rw [hnd] at hn2 hno hst
  rw [hty] at ht2 hst
  replace hql := Lib.hid hql
  obtain ⟨A2, hA2⟩ : ∃ x, cutA A c (i + 2) 1 = x := ⟨_, rfl⟩
  have r24 : ∀ W, (Instr.slice 34 (.slice A b.length c) (some (.int .i64 ((i : Int) + 2))) (some (.int .i64 ((i : Int) + 4))) none).run Tryz.prog W = .ok (.slice A2 2 (c - (i + 2))) W := fun W => by
   have := run_cut (P := Tryz.prog) 34 Tryz.underlying34 1 byte_size A b.length c .i64 .i64 ((i : Int) + 2) ((i : Int) + 4) (by omega) (by omega) (by omega) W
   rw [show ((i : Int) + 2).toNat = i + 2 from by omega, show ((i : Int) + 4).toNat - (i + 2) = 2 from by omega] at this
   rw [← hA2]; exact this
  have hg1 : Hid (∀ W, Below wr.heap.size wr W → Calls Tryz.prog 213 #[.slice A2 2 (c - (i + 2))] W fun e w' => e = .returned (.int .u64 (n : Int)) ∧ w' = W) := fun W hW => by
   have hc := SeesB.cut (a := i + 2) (b := i + 4) hu.out (by omega) (by omega)
   rw [show i + 4 - (i + 2) = 2 from by omega] at hc
   rw [← hnd, ← hA2]
   unfold ndF
   rw [List.drop_drop]
   exact rget_any B _ _ W (SeesB.below hc (hb.out.mono hB |>.trans (hW.mono (Nat.le_trans hB hb.out.size))))
  replace hA2 := Lib.hid hA2
  by_cases hlt : b.length - i - 4 < n
  · have i3 : (b.length : Int) - (i : Int) - 4 < (n : Int) := by omega
    have hr := Lib.hid (hno.out (by omega) (.inr (by omega)))
    clear hno hst hend hnd hty
    go_wp2_with fail
    refine (hg1.out wr (Below.refl _ _)).mono ?_
    rintro e w1 ⟨rfl, hw1⟩
    obtain rfl := hw1.symm
    dsimp only
    go_wp2_with fail
    go_returns
    exact ⟨none, hr.out, rfl, hb.out⟩
  · have i3 : ¬ (b.length : Int) - (i : Int) - 4 < (n : Int) := by omega
    obtain ⟨A0, hA0⟩ : ∃ x, cutA A c i 1 = x := ⟨_, rfl⟩
    obtain ⟨A4, hA4⟩ : ∃ x, cutA A c (i + 4) 1 = x := ⟨_, rfl⟩
    obtain ⟨d, hd⟩ : ∃ x, ((b.drop i).drop 4).take n = x := ⟨_, rfl⟩
    have hdl : Hid (d.length = n) := by show _ = _; rw [← hd, List.length_take, List.length_drop, List.length_drop]; omega
    have r02 : ∀ W, (Instr.slice 34 (.slice A b.length c) (some (.int .i64 (i : Int))) (some (.int .i64 ((i : Int) + 2))) none).run Tryz.prog W = .ok (.slice A0 2 (c - i)) W := fun W => by
     have := run_cut (P := Tryz.prog) 34 Tryz.underlying34 1 byte_size A b.length c .i64 .i64 (i : Int) ((i : Int) + 2) (by omega) (by omega) (by omega) W
     rw [show (i : Int).toNat = i from by omega, show ((i : Int) + 2).toNat - i = 2 from by omega] at this
     rw [← hA0]; exact this
    have r4n : ∀ W, (Instr.slice 34 (.slice A b.length c) (some (.int .i64 ((i : Int) + 4))) (some (.int .i64 ((i : Int) + 4 + (n : Int)))) none).run Tryz.prog W = .ok (.slice A4 n (c - (i + 4))) W := fun W => by
     have := run_cut (P := Tryz.prog) 34 Tryz.underlying34 1 byte_size A b.length c .i64 .i64 ((i : Int) + 4) ((i : Int) + 4 + (n : Int)) (by omega) (by omega) (by omega) W
     rw [show ((i : Int) + 4).toNat = i + 4 from by omega, show ((i : Int) + 4 + (n : Int)).toNat - (i + 4) = n from by omega] at this
     rw [← hA4]; exact this
    have hg2 : Hid (∀ W, Below wr.heap.size wr W → Calls Tryz.prog 213 #[.slice A0 2 (c - i)] W fun e w' => e = .returned (.int .u64 (ty : Int)) ∧ w' = W) := fun W hW => by
     have hc := SeesB.cut (a := i) (b := i + 2) hu.out (by omega) (by omega)
     rw [show i + 2 - i = 2 from by omega] at hc
     rw [← hty, ← hA0]
     exact rget_any B _ _ W (SeesB.below hc (hb.out.mono hB |>.trans (hW.mono (Nat.le_trans hB hb.out.size))))
    have hj : Hid (∀ W X, Below wr.heap.size wr W → Below (W.alloc (.cells #[.slice A4 n (c - (i + 4))] 34)).heap.size (W.alloc (.cells #[.slice A4 n (c - (i + 4))] 34)) X → Calls Tryz.prog 88 #[.slice (some ⟨W.heap.size, 0, none⟩) 1 1] X (Gives d X)) := fun W X hW hX => by
     have hc := SeesB.cut (a := i + 4) (b := i + 4 + n) hu.out (by omega) (by omega)
     rw [show i + 4 + n - (i + 4) = n from by omega, hA4, ← List.drop_drop, hd] at hc
     have hc2 := SeesB.more (SeesB.below hc (hb.out.mono hB |>.trans (hW.mono (Nat.le_trans hB hb.out.size)))) (Nat.le_trans hB (Nat.le_trans hb.out.size hW.size))
     have hl := seesL_lit W 34 (vs := [.slice A4 n (c - (i + 4))]) (ls := [d]) ⟨hc2, trivial⟩ (by simp [maxLen])
     have hf : [d].flatten = d := by simp
     have := rjoin_any _ _ [d] X (hl.below hX) hX.size (by rw [hf]; have := hdl.out; omega)
     rw [hf] at this
     exact this
    rw [hd] at hst
    obtain ⟨k1, k2⟩ := hst.out (by omega) (by omega)
    replace k1 := Lib.hid k1
    replace k2 := Lib.hid k2
    have hin : Hid (i + 4 + n ≤ b.length) := by show _ ≤ _; omega
    have hol : Hid (out.length + 1 ≤ 1048576) := by
     show _ ≤ _
     have h1 : ∀ l : List Fd, 4 * l.length ≤ (wrF l).length := fun l => by
      induction l with
      | nil => exact Nat.le_refl _
      | cons x l ih => rw [wrF_cons, List.length_append, fdB_len, List.length_cons]; omega
     have h2 := h1 out
     rw [hw.out, List.length_take] at h2
     omega
    have hlo : Hid (∀ j, (Value.slice Ao out.length co).ownBlock = some j → j < wr.heap.size) := fun j hj => (ho.out.own.lt j hj).2
    have n1 : IntKind.i64.wrap (ty : Int) = (ty : Int) := by rw [IntKind.wrap_i64]; omega
    have n2 : IntKind.i64.wrap ((i : Int) + 2) = (i : Int) + 2 := by rw [IntKind.wrap_i64]; omega
    have n3 : IntKind.i64.wrap ((i : Int) + 4) = (i : Int) + 4 := by rw [IntKind.wrap_i64]; omega
    have n4 : IntKind.i64.wrap ((i : Int) + 4 + (n : Int)) = (i : Int) + 4 + (n : Int) := by rw [IntKind.wrap_i64]; omega
    replace hd := Lib.hid hd
    replace hA0 := Lib.hid hA0
    replace hA4 := Lib.hid hA4
    replace hnd := Lib.hid hnd
    replace hty := Lib.hid hty
    clear hno hst hend
    go_upto_region 8 with (fail)
    go_wp2_with fail
    refine (hg1.out wr (Below.refl _ _)).mono ?_
    rintro e w1 ⟨rfl, hw1⟩
    obtain rfl := hw1.symm
    dsimp only
    go_upto_region 11 with (fail)
    go_region_held3 (fun W' : World => True) (trivial)
     (first
      | (refine step_appRF (by rfl) (.tmp 34) (.tmp 53) 111 113 Tryz.underlying111 (by rfl) ti (.agg #[.int .i64 0, .slice none 0 0]) 2 32 hti.out htz.out hts.out htb.out (by rfl) (by omega) (by omega) w.heap.size (.slice Ao out.length co) out.length (fdS out) (by rfl) ho2.out (w8.heap.size + 1) (.slice (some ⟨w8.heap.size, 0, none⟩) 1 1) 1 [.int .i64 (ty : Int), .slice B2 d.length d2] [.val (.int .i64 (ty : Int)), .byt d] (by rfl) hrec.out (by rfl) hel.out hol.out hb3.out.size ?_; intro v' w' hW2 hb4 hg4)
      | (go_at_call 88; (with_reducible refine (hj.out wr _ (Below.refl _ _) (bdrew _)).mono ?_); rintro e w8 ⟨v8, rfl, o8, hb8⟩
         obtain ⟨B2, d2, rfl, -, -⟩ := o8.sees.mk_
         have hb00 := bgo (balloc wr (.cells #[.slice A4 n (c - (i + 4))] 34)) (bdrew _)
         have hb08 := bgo hb00 hb8
         have hal := balloc w8 (.cells #[.int .i64 (ty : Int), .slice B2 d.length d2] 113)
         have hrec : Hid (Sees (w8.alloc (.cells #[.int .i64 (ty : Int), .slice B2 d.length d2] 113)) (w8.heap.size + 1) (.slice (some ⟨w8.heap.size, 0, none⟩) 1 1) 2 1 [.int .i64 (ty : Int), .slice B2 d.length d2]) := rec_lit w8 113 [.int .i64 (ty : Int), .slice B2 d.length d2]
         have ho2 := Lib.hid (ho.out.below (bgo hb08 hal))
         have hel := Lib.hid (field_eltsF (base := w.heap.size) (t := ty) (EltS.of_from (v := .slice Ao out.length co) (seesB_of o8.sees (Nat.le_refl _) hal) (o8.from.mono hb00.size) hlo.out) (o8.from.mono (Nat.le_trans hb.out.size hb00.size)))
         have hb3 := Lib.hid (bgo (bgo hb.out hb08) hal)
         clear hal hb00)
      | (go_at_call 88; (with_reducible refine (hj.out wr.drew _ (bdrew wr) (Below.refl _ _)).mono ?_); rintro e w8 ⟨v8, rfl, o8, hb8⟩
         obtain ⟨B2, d2, rfl, -, -⟩ := o8.sees.mk_
         have hb00 := bgo (bdrew wr) (balloc wr.drew (.cells #[.slice A4 n (c - (i + 4))] 34))
         have hb08 := bgo hb00 hb8
         have hal := balloc w8 (.cells #[.int .i64 (ty : Int), .slice B2 d.length d2] 113)
         have hrec : Hid (Sees (w8.alloc (.cells #[.int .i64 (ty : Int), .slice B2 d.length d2] 113)) (w8.heap.size + 1) (.slice (some ⟨w8.heap.size, 0, none⟩) 1 1) 2 1 [.int .i64 (ty : Int), .slice B2 d.length d2]) := rec_lit w8 113 [.int .i64 (ty : Int), .slice B2 d.length d2]
         have ho2 := Lib.hid (ho.out.below (bgo hb08 hal))
         have hel := Lib.hid (field_eltsF (base := w.heap.size) (t := ty) (EltS.of_from (v := .slice Ao out.length co) (seesB_of o8.sees (Nat.le_refl _) hal) (o8.from.mono hb00.size) hlo.out) (o8.from.mono (Nat.le_trans hb.out.size hb00.size)))
         have hb3 := Lib.hid (bgo (bgo hb.out hb08) hal)
         clear hal hb00)
      | (go_at_call 88; (with_reducible refine (hj.out wr _ (Below.refl _ _) (Below.refl _ _)).mono ?_); rintro e w8 ⟨v8, rfl, o8, hb8⟩
         obtain ⟨B2, d2, rfl, -, -⟩ := o8.sees.mk_
         have hb00 := bgo (Below.refl _ _) (balloc wr (.cells #[.slice A4 n (c - (i + 4))] 34))
         have hb08 := bgo hb00 hb8
         have hal := balloc w8 (.cells #[.int .i64 (ty : Int), .slice B2 d.length d2] 113)
         have hrec : Hid (Sees (w8.alloc (.cells #[.int .i64 (ty : Int), .slice B2 d.length d2] 113)) (w8.heap.size + 1) (.slice (some ⟨w8.heap.size, 0, none⟩) 1 1) 2 1 [.int .i64 (ty : Int), .slice B2 d.length d2]) := rec_lit w8 113 [.int .i64 (ty : Int), .slice B2 d.length d2]
         have ho2 := Lib.hid (ho.out.below (bgo hb08 hal))
         have hel := Lib.hid (field_eltsF (base := w.heap.size) (t := ty) (EltS.of_from (v := .slice Ao out.length co) (seesB_of o8.sees (Nat.le_refl _) hal) (o8.from.mono hb00.size) hlo.out) (o8.from.mono (Nat.le_trans hb.out.size hb00.size)))
         have hb3 := Lib.hid (bgo (bgo hb.out hb08) hal)
         clear hal hb00)
      | (go_at_call 213; (with_reducible refine (hg2.out _ (by (repeat (first | exact Below.refl _ _ | (refine bgo ?_ (balloc _ _)) | (refine bgo ?_ (bdrew _)) | (refine bgo ?_ (by assumption)))))).mono ?_); rintro e w7 ⟨rfl, hw7⟩
         obtain rfl := hw7.symm))
    all_goals
     replace hW2 : Hid (OwnRF w' w.heap.size 113 v' 2 (out ++ [(ty, d)]).length (fdS (out ++ [(ty, d)]))) := by
      show OwnRF _ _ _ _ _ _ _
      rw [List.length_append, fdS_append]; exact hW2
     have hb5 := Lib.hid (hb3.out.trans hb4)
     clear hb4 hg4
     go_wp2_with fail
     go_roundw
     case rel => exact ⟨i + 4 + n, out ++ [(ty, d)], hin.out, by go_num, k2, k1, hW2, hb5⟩
     case measure => simp [intOf]; omega
end Go.Proofs.YtgehkgjllhkhoaaGreat

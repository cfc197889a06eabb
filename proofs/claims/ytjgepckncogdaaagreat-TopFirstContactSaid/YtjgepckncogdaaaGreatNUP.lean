/- What a law leans on beyond the base: contracts, plain functions, walks. Conditions: those of each theorem. -/
import Derived.Test.YtjgepckncogdaaaGreatTUC
import Derived.Test.YtjgepckncogdaaaGreatNC1
set_option linter.unusedVariables false
set_option linter.unusedSimpArgs false
namespace Go.Proofs.YtjgepckncogdaaaGreat
theorem cnt_le (l : List Sp) (t : Int) : cnt l t ≤ l.length := List.countP_le_length
theorem cnt_cons (s : Sp) (l : List Sp) (t : Int) : cnt (s :: l) t = cnt l t + if s.1 ≤ t ∧ t ≤ s.2 then 1 else 0 := by
 unfold cnt hol
 rw [List.countP_cons]
 simp only [decide_eq_true_eq]
section
variable {l : List Sp} {x y c : Int} {out ini : List (Int × Int × Int)} {q : Int × Int × Int}
theorem PInv.start (h : ∀ t, t < x → cnt l t = 0) : PInv l x [] := ⟨List.Pairwise.nil, fun a ha => absurd ha (by simp), fun t ht h1 => by have := h t ht; omega⟩
theorem PInv.push (h : PInv l x out) (hxy : x < y) (h0 : ∀ t, x ≤ t → t < y → (cnt l t : Int) = c) : PInv l y (out ++ [(x, y - 1, c)]) := by
 obtain ⟨h1, h2, h3⟩ := h
 refine ⟨?_, fun a ha => ?_, fun t ht hc => ?_⟩
 · rw [List.pairwise_append]
   refine ⟨h1, List.pairwise_singleton _ _, fun a ha b hb => ?_⟩
   rw [List.mem_singleton] at hb
   subst hb
   exact (h2 a ha).2.1
 · rcases List.mem_append.1 ha with ha | ha
   · obtain ⟨p1, p2, p3⟩ := h2 a ha
     exact ⟨p1, by omega, p3⟩
   · rw [List.mem_singleton] at ha
     subst ha
     exact ⟨by show x ≤ y - 1; omega, by show y - 1 < y; omega, fun t h1 h2 => h0 t h1 (by have : t ≤ y - 1 := h2; omega)⟩
 · rcases Int.lt_or_le t x with h | h
   · obtain ⟨a, ha, hb⟩ := h3 t h hc
     exact ⟨a, List.mem_append_left _ ha, hb⟩
   · exact ⟨(x, y - 1, c), by simp, h, by show t ≤ y - 1; omega⟩
theorem PInv.join (h : PInv l x (ini ++ [q])) (hq : q.2.1 + 1 = x) (hc : q.2.2 = c) (hxy : x < y) (h0 : ∀ t, x ≤ t → t < y → (cnt l t : Int) = c) : PInv l y (ini ++ [(q.1, y - 1, q.2.2)]) := by
 obtain ⟨h1, h2, h3⟩ := h
 rw [List.pairwise_append] at h1
 obtain ⟨k1, -, k3⟩ := h1
 refine ⟨?_, fun a ha => ?_, fun t ht hc' => ?_⟩
 · rw [List.pairwise_append]
   refine ⟨k1, List.pairwise_singleton _ _, fun a ha b hb => ?_⟩
   rw [List.mem_singleton] at hb
   subst hb
   exact k3 a ha q (by simp)
 · rcases List.mem_append.1 ha with ha | ha
   · obtain ⟨p1, p2, p3⟩ := h2 a (List.mem_append_left _ ha)
     exact ⟨p1, by omega, p3⟩
   · rw [List.mem_singleton] at ha
     subst ha
     obtain ⟨p1, p2, p3⟩ := h2 q (by simp)
     refine ⟨by show q.1 ≤ y - 1; omega, by show y - 1 < y; omega, fun t h1 h2 => ?_⟩
     have h2 : t ≤ y - 1 := h2
     rcases Int.lt_or_le t x with h | h
     · exact p3 t h1 (by omega)
     · show (cnt l t : Int) = q.2.2
       rw [hc]; exact h0 t h (by omega)
 · rcases Int.lt_or_le t x with h | h
   · obtain ⟨a, ha, hb⟩ := h3 t h hc'
     rcases List.mem_append.1 ha with ha | ha
     · exact ⟨a, List.mem_append_left _ ha, hb⟩
     · rw [List.mem_singleton] at ha
       subst ha
       exact ⟨(a.1, y - 1, a.2.2), by simp, hb.1, by show t ≤ y - 1; omega⟩
   · have := (h2 q (by simp)).1
     exact ⟨(q.1, y - 1, q.2.2), by simp, by show q.1 ≤ t; omega, by show t ≤ y - 1; omega⟩
end
section
variable {l : List Sp} {n : Int} {ps : List (Int × Int × Int)} {k : Nat} {out ini : List Sp} {p : Int × Int × Int} {q : Sp}
theorem LInv.start : LInv l n ps 0 [] := ⟨List.Pairwise.nil, fun a ha => absurd ha (by simp), fun j q hj => absurd hj (by omega)⟩
theorem pairs_lt (hA : PAll l ps) {i j : Nat} {a b : Int × Int × Int} (ha : ps[i]? = some a) (hb : ps[j]? = some b) (h : i < j) : a.2.1 < b.1 := by
 obtain ⟨hi, rfl⟩ := List.getElem?_eq_some_iff.1 ha
 obtain ⟨hj, rfl⟩ := List.getElem?_eq_some_iff.1 hb
 exact List.pairwise_iff_getElem.1 hA.1 i j hi hj h
theorem LInv.push (hA : PAll l ps) (h : LInv l n ps k out) (hp : ps[k]? = some p) (hc : n ≤ p.2.2) : LInv l n ps (k + 1) (out ++ [(p.1, p.2.1)]) := by
 obtain ⟨h1, h2, h3⟩ := h
 have hpm := hA.2.1 p (List.mem_of_getElem? hp)
 refine ⟨?_, fun a ha => ?_, fun j q hj hq hn t t1 t2 => ?_⟩
 · rw [List.pairwise_append]
   refine ⟨h1, List.pairwise_singleton _ _, fun a ha b hb => ?_⟩
   rw [List.mem_singleton] at hb
   subst hb
   exact (h2 a ha).2.1 k p (Nat.le_refl _) hp
 · rcases List.mem_append.1 ha with ha | ha
   · exact ⟨(h2 a ha).1, fun j q hj hq => (h2 a ha).2.1 j q (by omega) hq, (h2 a ha).2.2⟩
   · rw [List.mem_singleton] at ha
     subst ha
     exact ⟨hpm.1, fun j q hj hq => pairs_lt hA hp hq (by omega), fun t t1 t2 => by rw [hpm.2 t t1 t2]; exact hc⟩
 · rcases Nat.lt_or_ge j k with h | h
   · obtain ⟨a, ha, hb⟩ := h3 j q h hq hn t t1 t2
     exact ⟨a, List.mem_append_left _ ha, hb⟩
   · obtain rfl : j = k := by omega
     rw [hp] at hq
     obtain rfl := Option.some.inj hq
     exact ⟨(p.1, p.2.1), by simp, t1, t2⟩
theorem LInv.join (hA : PAll l ps) (h : LInv l n ps k (ini ++ [q])) (hp : ps[k]? = some p) (hc : n ≤ p.2.2) (hq : q.2 + 1 = p.1) : LInv l n ps (k + 1) (ini ++ [(q.1, p.2.1)]) := by
 obtain ⟨h1, h2, h3⟩ := h
 have hpm := hA.2.1 p (List.mem_of_getElem? hp)
 have hqm := h2 q (by simp)
 rw [List.pairwise_append] at h1
 obtain ⟨k1, -, k3⟩ := h1
 refine ⟨?_, fun a ha => ?_, fun j r hj hr hn t t1 t2 => ?_⟩
 · rw [List.pairwise_append]
   refine ⟨k1, List.pairwise_singleton _ _, fun a ha b hb => ?_⟩
   rw [List.mem_singleton] at hb
   subst hb
   exact k3 a ha q (by simp)
 · rcases List.mem_append.1 ha with ha | ha
   · have := h2 a (List.mem_append_left _ ha)
     exact ⟨this.1, fun j q hj hq => this.2.1 j q (by omega) hq, this.2.2⟩
   · rw [List.mem_singleton] at ha
     subst ha
     refine ⟨by show q.1 ≤ p.2.1; omega, fun j r hj hr => pairs_lt hA hp hr (by omega), fun t t1 t2 => ?_⟩
     rcases Int.lt_or_le t p.1 with h | h
     · exact hqm.2.2 t t1 (by omega)
     · rw [hpm.2 t h t2]; exact hc
 · rcases Nat.lt_or_ge j k with h | h
   · obtain ⟨a, ha, hb⟩ := h3 j r h hr hn t t1 t2
     rcases List.mem_append.1 ha with ha | ha
     · exact ⟨a, List.mem_append_left _ ha, hb⟩
     · rw [List.mem_singleton] at ha
       subst ha
       exact ⟨(a.1, p.2.1), by simp, hb.1, by show t ≤ p.2.1; omega⟩
   · obtain rfl : j = k := by omega
     rw [hp] at hr
     obtain rfl := Option.some.inj hr
     exact ⟨(q.1, p.2.1), by simp, by show q.1 ≤ t; omega, t2⟩
end
def evs (l : List Sp) : List (Int × Int) := l.flatMap fun s => [(s.1, 1), (s.2 + 1, -1)]
def sumTo (d : List (Int × Int)) (t : Int) : Int := (d.map fun e => if e.1 ≤ t then e.2 else 0).sum
theorem sumTo_cons (e : Int × Int) (d : List (Int × Int)) (t : Int) : sumTo (e :: d) t = (if e.1 ≤ t then e.2 else 0) + sumTo d t := by simp [sumTo]
theorem evs_cons (s : Sp) (l : List Sp) : evs (s :: l) = (s.1, 1) :: (s.2 + 1, -1) :: evs l := rfl
theorem evs_len (l : List Sp) : (evs l).length = 2 * l.length := by
 induction l with
 | nil => rfl
 | cons s l ih => rw [evs_cons]; simp [ih]; omega
theorem sumTo_evs {l : List Sp} (h : ∀ s ∈ l, s.1 ≤ s.2) (t : Int) : sumTo (evs l) t = cnt l t := by
 induction l with
 | nil => rfl
 | cons s l ih =>
   rw [evs_cons, sumTo_cons, sumTo_cons, ih (fun s hs => h s (by simp [hs])), cnt_cons]
   have := h s (by simp)
   dsimp only
   by_cases h1 : s.1 ≤ t
   · by_cases h2 : t ≤ s.2
     · rw [if_pos h1, if_neg (by omega), if_pos ⟨h1, h2⟩]; omega
     · rw [if_pos h1, if_pos (by omega), if_neg (by omega)]; omega
   · rw [if_neg h1, if_neg (by omega), if_neg (by omega)]; omega
theorem sumTo_perm {a b : List (Int × Int)} (h : a.Perm b) (t : Int) : sumTo a t = sumTo b t := by
 induction h with
 | nil => rfl
 | cons x _ ih => rw [sumTo_cons, sumTo_cons, ih]
 | swap x y l => rw [sumTo_cons, sumTo_cons, sumTo_cons, sumTo_cons]; omega
 | trans _ _ i1 i2 => rw [i1, i2]
def byS (d : List (Int × Int)) (k : Nat) : Int := ((d.take k).map (·.2)).sum
theorem sumTo_append (a b : List (Int × Int)) (t : Int) : sumTo (a ++ b) t = sumTo a t + sumTo b t := by simp [sumTo]
theorem sumTo_all {a : List (Int × Int)} {t : Int} (h : ∀ e ∈ a, e.1 ≤ t) : sumTo a t = (a.map (·.2)).sum := by
 unfold sumTo
 congr 1
 exact List.map_congr_left fun e he => if_pos (h e he)
theorem sumTo_none {a : List (Int × Int)} {t : Int} (h : ∀ e ∈ a, t < e.1) : sumTo a t = 0 := by
 induction a with
 | nil => rfl
 | cons e a ih => rw [sumTo_cons, ih (fun e he => h e (by simp [he])), if_neg (by have := h e (by simp); omega)]; rfl
theorem sumTo_sorted {d : List (Int × Int)} {k : Nat} {t : Int} (h1 : ∀ (j : Nat) e, d[j]? = some e → j < k → e.1 ≤ t) (h2 : ∀ (j : Nat) e, d[j]? = some e → k ≤ j → t < e.1) : sumTo d t = byS d k := by
 conv => lhs; rw [← List.take_append_drop k d]
 rw [sumTo_append, sumTo_all (a := d.take k), sumTo_none (a := d.drop k), Int.add_zero]; rfl
 · intro e he
   obtain ⟨j, hj⟩ := List.getElem?_of_mem he
   rw [List.getElem?_drop] at hj
   exact h2 _ _ hj (by omega)
 · intro e he
   obtain ⟨j, hj⟩ := List.getElem?_of_mem he
   rw [List.getElem?_take] at hj
   split at hj
   · exact h1 _ _ hj (by assumption)
   · cases hj
theorem byS_succ {d : List (Int × Int)} {k : Nat} {e : Int × Int} (h : d[k]? = some e) : byS d (k + 1) = byS d k + e.2 := by
 unfold byS
 rw [List.take_add_one, h]; simp
end Go.Proofs.YtjgepckncogdaaaGreat
namespace Go.Proofs.YtjgepckncogdaaaGreat
open Go Go.RowKit
set_option linter.unusedVariables false
set_option linter.unusedSimpArgs false
attribute [local go_sem ↓] Go.wp_at_zero Go.wp_at_succ
theorem spV_len (l : List Sp) : (spV l).length = l.length * 2 := by
 induction l with
 | nil => rfl
 | cons s l ih => rw [spV_cons, List.length_cons, List.length_cons, ih, List.length_cons]; omega
end Go.Proofs.YtjgepckncogdaaaGreat
namespace Go.Proofs.YtjgepckncogdaaaGreat
open Go Go.RowKit
set_option linter.unusedVariables false
set_option linter.unusedSimpArgs false
attribute [local go_sem ↓] Go.wp_at_zero Go.wp_at_succ
def okV (l : List Sp) : Bool := l.all fun s => vS s.1 s.2
theorem okV_take {l : List Sp} {k : Nat} {s : Sp} (h : l[k]? = some s) : okV (l.take (k + 1)) = (okV (l.take k) && vS s.1 s.2) := by
 rw [List.take_add_one, h]
 unfold okV
 rw [List.all_append]
 simp
theorem okV_each {l : List Sp} (h : okV l = true) : ∀ s ∈ l, vS s.1 s.2 = true := by
 intro s hs
 unfold okV at h
 rw [List.all_eq_true] at h
 exact h s hs
theorem okV_le {l : List Sp} (h : okV l = true) : ∀ s ∈ l, s.1 ≤ s.2 := by
 intro s hs
 have := okV_each h s hs
 rw [vS_eq] at this
 simp at this
 exact this.2
def chkC (l : List Sp) : Int := if okV l = true then 0 else 3
theorem qchk1_any (lo hi : Int) (w : World) : Calls Tryz.prog 234 #[.agg #[.int .i64 lo, .int .i64 hi]] w (BoolPost (!vS lo hi) w) := by
 have hva := Lib.hid (fun W => valid_any lo hi W)
 have hal := Lib.hid (balloc w (.cells #[.int .i64 lo, .int .i64 hi] 24))
 have x2 := Box.new w 24 [.int .i64 lo, .int .i64 hi]
 change Box (w.alloc (.cells #[.int .i64 lo, .int .i64 hi] 24)) _ _ _ at x2
 go_enter Tryz.func234, Tryz.ntmps234
 go_upto_region 1 with (fail)
 generalize w.alloc (.cells #[.int .i64 lo, .int .i64 hi] 24) = W0 at *
 generalize hgg : w.heap.size = g2 at x2 ⊢
 replace hgg := Lib.hid hgg
 obtain ⟨y0, y1⟩ := boxT2 x2
 go_wp2_with fail
 refine (hva.out _).mono ?_
 rintro e w1 ⟨rfl, hb1⟩
 have hbw := Lib.hid (bgo hal.out hb1)
 clear y0 y1 hb1
 dsimp only
 generalize vS lo hi = q at *
 go_wp2_with fail
 go_ret
 exact ⟨rfl, hbw.out⟩
set_option maxRecDepth 100000 in
theorem qidx_any (B : Nat) (u : Value) (l : List Sp) (w : World) (hu : SeesS w B u l) (hB : B ≤ w.heap.size) (hn : l.length ≤ 64) :
 Calls Tryz.prog 272 #[u, .func (.func 234) #[] #[]] w fun e w' => (∃ i : Int, e = .returned (.int .i64 i) ∧ decide (0 ≤ i) = !(okV l)) ∧ Below w.heap.size w w' := by
 obtain ⟨A, c, rfl, -, -⟩ := hu.mk_
 replace hu := Lib.hid hu
 go_enter Tryz.func272, Tryz.ntmps272
 go_wp2_with fail
 go_loopw [8] (fun t wr => ∃ k : Nat, k ≤ l.length ∧ t = .int .i64 k ∧ Hid (okV (l.take k) = true) ∧ Hid (Below w.heap.size w wr)) (fun t _ => l.length - (intOf t).toNat)
 case atStart => exact ⟨0, by omega, rfl, rfl, Below.refl _ _⟩
 case round =>
  obtain ⟨k, hk, rfl, ha, hb⟩ := hrel
  by_cases hlt : k < l.length
  · obtain ⟨b, o, rfl, hbB, hds⟩ := (hu.out.below (hb.out.mono hB)).at_ (by omega)
    obtain ⟨s, hs⟩ : ∃ s, l[k]? = some s := ⟨_, List.getElem?_eq_getElem hlt⟩
    obtain ⟨c0, c1⟩ := hds k s hs
    have hst := Lib.hid (okV_take hs)
    have hmem : Hid (s ∈ l) := by show _ ∈ _; exact List.mem_of_getElem? hs
    obtain ⟨lo, hi⟩ := s
    dsimp only at c0 c1
    have i0 : (k : Int) < (l.length : Int) := by omega
    have hc1 := Lib.hid (fun W => qchk1_any lo hi W)
    replace hs := Lib.hid hs
    clear hds
    go_wp2_with fail
    refine (hc1.out wr).mono ?_
    rintro e w1 ⟨rfl, hb1⟩
    replace hb := Lib.hid (bgo hb.out hb1)
    clear hb1 c0 c1
    dsimp only
    cases hv : vS lo hi with
    | true =>
      have hst2 : Hid (okV (l.take (k + 1)) = true) := by show _ = _; rw [hst.out, ha.out]; exact hv
      replace hv := Lib.hid hv
      go_wp2_with fail
      go_roundw
      case rel => exact ⟨k + 1, by omega, by go_num, hst2, hb⟩
      case measure => simp [intOf]; omega
    | false =>
      have hno : Hid (okV l = false) := by
       show _ = _
       cases h : okV l with
       | false => rfl
       | true => have := okV_each h _ hmem.out; rw [hv] at this; cases this
      replace hv := Lib.hid hv
      go_wp2_with fail
      go_returns
      exact ⟨⟨_, rfl, by rw [hno.out]; simp⟩, hb.out⟩
  · have i0 : ¬ (k : Int) < (l.length : Int) := by omega
    rw [List.take_of_length_le (by omega)] at ha
    go_wp2_with fail
    go_returns
    exact ⟨⟨_, rfl, by rw [ha.out]; rfl⟩, hb.out⟩
theorem qcont_any (B : Nat) (u : Value) (l : List Sp) (w : World) (hu : SeesS w B u l) (hB : B ≤ w.heap.size) (hn : l.length ≤ 64) :
 Calls Tryz.prog 233 #[u, .func (.func 234) #[] #[]] w (BoolPost (!(okV l)) w) := by
 have hi := Lib.hid (qidx_any B u l w hu hB hn)
 obtain ⟨A, c, rfl, -, -⟩ := hu.mk_
 clear hu
 go_enter Tryz.func233, Tryz.ntmps233
 go_wp2_with fail
 refine hi.out.mono ?_
 rintro e w1 ⟨⟨i, rfl, hd⟩, hb⟩
 replace hd := Lib.hid hd
 dsimp only
 go_wp2_with fail
 go_ret
 exact ⟨ret_bool hd.out, hb⟩
def ErrP (c : Int) (w : World) (e : Ending) (w' : World) : Prop := e = .returned (.int .i64 c) ∧ Below w.heap.size w w'
theorem scheck_any (B : Nat) (u : Value) (l : List Sp) (w : World) (hu : SeesS w B u l) (hB : B ≤ w.heap.size) (hn : l.length ≤ 64) :
 Calls Tryz.prog 177 #[u] w (ErrP (chkC l) w) := by
 have hi := Lib.hid (qcont_any B u l w hu hB hn)
 obtain ⟨A, c, rfl, -, -⟩ := hu.mk_
 clear hu
 unfold chkC
 have i0 : ¬ (64 : Int) < (l.length : Int) := by omega
 generalize okV l = q at *
 cases q with
 | false =>
   have hr : Hid ((if false = true then (0 : Int) else 3) = 3) := by show _ = _; simp
   rw [hr.out]
   go_enter Tryz.func177, Tryz.ntmps177
   go_wp2_with fail
   refine hi.out.mono ?_
   rintro e w1 ⟨rfl, hb⟩
   replace hb := Lib.hid hb
   dsimp only
   go_wp2_with fail
   go_ret
   exact ⟨rfl, hb.out⟩
 | true =>
   have hr : Hid ((if true = true then (0 : Int) else 3) = 0) := by show _ = _; simp
   rw [hr.out]
   go_enter Tryz.func177, Tryz.ntmps177
   go_wp2_with fail
   refine hi.out.mono ?_
   rintro e w1 ⟨rfl, hb⟩
   replace hb := Lib.hid hb
   dsimp only
   go_wp2_with fail
   go_ret
   exact ⟨rfl, hb.out⟩
end Go.Proofs.YtjgepckncogdaaaGreat
namespace Go.Proofs.YtjgepckncogdaaaGreat
open Go Go.RowKit
set_option linter.unusedVariables false
theorem evs_each {l : List Sp} (h : okV l = true) : ∀ e ∈ evs l, (e.2 = 1 ∨ e.2 = -1) ∧ -1152921504606846976 ≤ e.1 ∧ e.1 ≤ 1152921504606846977 := by
 intro e he
 unfold evs at he
 obtain ⟨s, hs, he⟩ := List.mem_flatMap.1 he
 have := okV_each h s hs
 unfold vS at this
 rw [decide_eq_true_iff] at this
 simp only [List.mem_cons, List.not_mem_nil, or_false] at he
 rcases he with rfl | rfl
 · exact ⟨.inl rfl, by dsimp only; omega, by dsimp only; omega⟩
 · exact ⟨.inr rfl, by dsimp only; omega, by dsimp only; omega⟩
structure Evs (l : List Sp) (d : List (Int × Int)) : Prop where
 perm : d.Perm (evs l)
 asc : d.Pairwise (fun a b => a.1 ≤ b.1)
section
variable {l : List Sp} {d : List (Int × Int)} {k : Nat} {t : Int} {e e' : Int × Int} {ps : List (Int × Int × Int)}
theorem Evs.len (h : Evs l d) : d.length = 2 * l.length := by rw [h.perm.length_eq, evs_len]
theorem Evs.each (h : Evs l d) (hv : okV l = true) : ∀ e ∈ d, (e.2 = 1 ∨ e.2 = -1) ∧ -1152921504606846976 ≤ e.1 ∧ e.1 ≤ 1152921504606846977 := fun e he => evs_each hv e (h.perm.mem_iff.1 he)
theorem Evs.le (h : Evs l d) {i j : Nat} (hi : d[i]? = some e) (hj : d[j]? = some e') (hij : i ≤ j) : e.1 ≤ e'.1 := by
 obtain ⟨h1, rfl⟩ := List.getElem?_eq_some_iff.1 hi
 obtain ⟨h2, rfl⟩ := List.getElem?_eq_some_iff.1 hj
 rcases Nat.lt_or_ge i j with h3 | h3
 · exact List.pairwise_iff_getElem.1 h.asc i j h1 h2 h3
 · obtain rfl : i = j := by omega
   exact Int.le_refl _
theorem Evs.cnt (h : Evs l d) (hv : okV l = true) (h1 : ∀ e, d[k]? = some e → t < e.1) (h2 : ∀ e (j : Nat), j < k → d[j]? = some e → e.1 ≤ t) : (cnt l t : Int) = byS d k := by
 rw [← sumTo_evs (okV_le hv), ← sumTo_perm h.perm]
 refine sumTo_sorted (fun j e hj hk => h2 e j hk hj) (fun j e hj hk => ?_)
 rcases Nat.lt_or_ge k d.length with h3 | h3
 · have := h1 _ (List.getElem?_eq_getElem h3)
   have := h.le (List.getElem?_eq_getElem h3) hj hk
   omega
 · rw [List.getElem?_eq_none (by omega)] at hj
   cases hj
theorem byS_bound (h : ∀ e ∈ d, e.2 = 1 ∨ e.2 = -1) (k : Nat) : -(k : Int) ≤ byS d k ∧ byS d k ≤ k := by
 induction k with
 | zero => exact ⟨Int.le_refl _, Int.le_refl _⟩
 | succ k ih =>
   rcases Nat.lt_or_ge k d.length with h1 | h1
   · have h2 := List.getElem?_eq_getElem h1
     rw [byS_succ h2]
     rcases h _ (List.mem_of_getElem? h2) with h | h <;> rw [h] <;> omega
   · have : byS d (k + 1) = byS d k := by unfold byS; rw [List.take_of_length_le (by omega), List.take_of_length_le (by omega)]
     rw [this]; omega
theorem byS_end (h : Evs l d) (hv : okV l = true) : byS d d.length = 0 := by
 have := h.cnt (t := 1152921504606846978) (k := d.length) hv (fun e he => by rw [List.getElem?_eq_none (Nat.le_refl _)] at he; cases he) (fun e j hj he => by have := h.each hv e (List.mem_of_getElem? he); omega)
 rw [← this]
 have h0 : Proofs.YtjgepckncogdaaaGreat.cnt l 1152921504606846978 = 0 := by
  unfold Proofs.YtjgepckncogdaaaGreat.cnt
  rw [List.countP_eq_zero]
  intro s hs
  have := okV_each hv s hs
  unfold vS at this
  rw [decide_eq_true_iff] at this
  unfold hol
  rw [decide_eq_true_iff]
  omega
 rw [h0]; rfl
def PI (l : List Sp) (d : List (Int × Int)) (k : Nat) (ps : List (Int × Int × Int)) : Prop := (∀ e, d[k]? = some e → PInv l e.1 ps) ∧ (k = d.length → PAll l ps)
theorem PI.start (h : Evs l d) (hv : okV l = true) : PI l d 0 [] := by
 refine ⟨fun e he => PInv.start fun t ht => ?_, fun h0 => ?_⟩
 · have := h.cnt (t := t) (k := 0) hv (fun e' he' => by rw [he] at he'; cases he'; exact ht) (fun e j hj => absurd hj (by omega))
   have h0 : byS d 0 = 0 := rfl
   omega
 · have := h.len
   have : l = [] := List.eq_nil_of_length_eq_zero (by omega)
   subst this
   exact ⟨List.Pairwise.nil, fun a ha => absurd ha (by simp), fun t ht => absurd ht (by simp [Proofs.YtjgepckncogdaaaGreat.cnt])⟩
theorem PI.cnt (h : Evs l d) (hv : okV l = true) (he : d[k]? = some e) (t1 : e.1 ≤ t) (t2 : ∀ e', d[k + 1]? = some e' → t < e'.1) : (Proofs.YtjgepckncogdaaaGreat.cnt l t : Int) = byS d (k + 1) :=
 h.cnt hv t2 fun e'' j hj hj' => by have := h.le hj' he (by omega); omega
theorem PI.last (h : Evs l d) (hv : okV l = true) (he : d[k]? = some e) (hk : k + 1 = d.length) (hi : PI l d k ps) : PI l d (k + 1) ps := by
 refine ⟨fun e' he' => (by rw [List.getElem?_eq_none (by omega)] at he'; cases he'), fun _ => (hi.1 e he).all fun t ht => ?_⟩
 have := PI.cnt h hv he ht (fun e' he' => by rw [List.getElem?_eq_none (by omega)] at he'; cases he')
 rw [hk, byS_end h hv] at this
 omega
theorem PI.zero (h : Evs l d) (hv : okV l = true) (he : d[k]? = some e) (he' : d[k + 1]? = some e') (hc : byS d (k + 1) = 0) (hi : PI l d k ps) : PI l d (k + 1) ps := by
 refine ⟨fun e'' h'' => ?_, fun hk => by rw [List.getElem?_eq_none (by omega)] at he'; cases he'⟩
 rw [he'] at h''
 obtain rfl := Option.some.inj h''
 refine (hi.1 e he).skip (h.le he he' (by omega)) fun t t1 t2 => ?_
 have := PI.cnt h hv he t1 (fun e'' h'' => by rw [he'] at h''; cases h''; exact t2)
 omega
theorem PI.same (h : Evs l d) (he : d[k]? = some e) (he' : d[k + 1]? = some e') (hc : e'.1 = e.1) (hi : PI l d k ps) : PI l d (k + 1) ps := by
 refine ⟨fun e'' h'' => ?_, fun hk => by rw [List.getElem?_eq_none (by omega)] at he'; cases he'⟩
 rw [he'] at h''
 obtain rfl := Option.some.inj h''
 rw [hc]
 exact hi.1 e he
theorem PI.push (h : Evs l d) (hv : okV l = true) (he : d[k]? = some e) (he' : d[k + 1]? = some e') (hne : e'.1 ≠ e.1) (hi : PI l d k ps) : PI l d (k + 1) (ps ++ [(e.1, e'.1 - 1, byS d (k + 1))]) := by
 refine ⟨fun e'' h'' => ?_, fun hk => by rw [List.getElem?_eq_none (by omega)] at he'; cases he'⟩
 rw [he'] at h''
 obtain rfl := Option.some.inj h''
 have := h.le he he' (by omega)
 exact (hi.1 e he).push (by omega) fun t t1 t2 => PI.cnt h hv he t1 (fun e'' h'' => by rw [he'] at h''; cases h''; exact t2)
theorem PI.join {ini : List (Int × Int × Int)} {q : Int × Int × Int} (h : Evs l d) (hv : okV l = true) (he : d[k]? = some e) (he' : d[k + 1]? = some e') (hne : e'.1 ≠ e.1) (hq : q.2.1 + 1 = e.1) (hc : q.2.2 = byS d (k + 1)) (hi : PI l d k (ini ++ [q])) : PI l d (k + 1) (ini ++ [(q.1, e'.1 - 1, q.2.2)]) := by
 refine ⟨fun e'' h'' => ?_, fun hk => by rw [List.getElem?_eq_none (by omega)] at he'; cases he'⟩
 rw [he'] at h''
 obtain rfl := Option.some.inj h''
 have := h.le he he' (by omega)
 exact (hi.1 e he).join hq hc (by omega) fun t t1 t2 => PI.cnt h hv he t1 (fun e'' h'' => by rw [he'] at h''; cases h''; exact t2)
end
def pcV (l : List (Int × Int × Int)) : List Value := l.flatMap fun s => [.int .i64 s.1, .int .i64 s.2.1, .int .i64 s.2.2]
theorem pcV_cons (s : Int × Int × Int) (l) : pcV (s :: l) = .int .i64 s.1 :: .int .i64 s.2.1 :: .int .i64 s.2.2 :: pcV l := rfl
theorem pcV_append (a b : List (Int × Int × Int)) : pcV (a ++ b) = pcV a ++ pcV b := List.flatMap_append
theorem pcV_len (l : List (Int × Int × Int)) : (pcV l).length = l.length * 3 := by
 induction l with
 | nil => rfl
 | cons s l ih => rw [pcV_cons, List.length_cons, List.length_cons, List.length_cons, ih, List.length_cons]; omega
theorem pcV_get (l : List (Int × Int × Int)) : ∀ (j : Nat) (s : Int × Int × Int), l[j]? = some s → (pcV l)[j * 3]? = some (.int .i64 s.1) ∧ (pcV l)[j * 3 + 1]? = some (.int .i64 s.2.1) ∧ (pcV l)[j * 3 + 2]? = some (.int .i64 s.2.2) := by
 induction l with
 | nil => intro j s h; simp at h
 | cons a l ih =>
   intro j s h
   cases j with
   | zero => simp at h; subst h; exact ⟨rfl, rfl, rfl⟩
   | succ j =>
     rw [List.getElem?_cons_succ] at h
     have := ih j s h
     rw [pcV_cons, show (j + 1) * 3 = j * 3 + 1 + 1 + 1 by omega]
     simp only [List.getElem?_cons_succ]
     exact this
theorem pcV_set (ini : List (Int × Int × Int)) (q : Int × Int × Int) (x : Int) : (pcV (ini ++ [q])).set (ini.length * 3 + 1) (.int .i64 x) = pcV (ini ++ [(q.1, x, q.2.2)]) := by
 rw [pcV_append, pcV_append, List.set_append_right _ _ (by rw [pcV_len]; omega), pcV_len, show ini.length * 3 + 1 - ini.length * 3 = 1 by omega]
 rfl
theorem spV_set (ini : List Sp) (q : Sp) (x : Int) : (spV (ini ++ [q])).set (ini.length * 2 + 1) (.int .i64 x) = spV (ini ++ [(q.1, x)]) := by
 rw [spV_append, spV_append, List.set_append_right _ _ (by rw [spV_len]; omega), spV_len, show ini.length * 2 + 1 - ini.length * 2 = 1 by omega]
 rfl
def OwnP (w : World) (base : Nat) (v : Value) (l : List (Int × Int × Int)) : Prop := w.ownsRow base 265 3 v l.length (pcV l)
def SeesP (w : World) (B : Nat) (v : Value) (l : List (Int × Int × Int)) : Prop := Sees w B v 3 l.length (pcV l)
theorem SeesP.mk_ {w : World} {B : Nat} {v : Value} {l : List (Int × Int × Int)} (h : SeesP w B v l) : ∃ A c, v = .slice A l.length c ∧ l.length ≤ c ∧ c ≤ maxLen := Sees.mk_ h
theorem SeesP.at_ {w : World} {B : Nat} {l : List (Int × Int × Int)} {A : Option Addr} {n c : Nat} (h : SeesP w B (.slice A n c) l) (hn : 0 < l.length) : ∃ b o, A = some ⟨b, o, none⟩ ∧ b < B ∧ ∀ j s, l[j]? = some s → w.cell? ⟨b, o + j * 3, none⟩ = some (.int .i64 s.1) ∧ w.cell? ⟨b, o + j * 3 + 1, none⟩ = some (.int .i64 s.2.1) ∧ w.cell? ⟨b, o + j * 3 + 2, none⟩ = some (.int .i64 s.2.2) := by
 obtain ⟨A', c', e, -, -⟩ := h.mk_
 injection e with e1 e2 e3
 subst e1 e2 e3
 obtain ⟨b, o, e, hb, hc⟩ := Sees.at_ h hn
 refine ⟨b, o, e, hb, fun j s hs => ?_⟩
 obtain ⟨k0, k1, k2⟩ := pcV_get l j s hs
 exact ⟨hc _ _ k0, by rw [Nat.add_assoc]; exact hc _ _ k1, by rw [Nat.add_assoc]; exact hc _ _ k2⟩
theorem own_form {w : World} {base size n : Nat} {e : TypeId} {v : Value} {xs : List Value} (h : w.ownsRow base e size v n xs) (hn : 0 < n) :
 ∃ g cap, v = .slice (some ⟨g, 0, none⟩) n cap ∧ base ≤ g ∧ g < w.heap.size ∧ n ≤ cap ∧ cap ≤ 9223372036854775807 ∧ ∀ j u, xs[j]? = some u → w.cell? ⟨g, j, none⟩ = some u := by
 rcases h.2 with ⟨_, rfl⟩ | ⟨g, cap, cur, rfl, hb, hh, hc, hm, _⟩
 · omega
 · refine ⟨g, cap, rfl, hb, (Array.getElem?_eq_some_iff.1 hh).1, hc, by unfold maxLen at hm; omega, fun j u hu => ?_⟩
   have h1 : j < n * size := by
    have := (List.getElem?_eq_some_iff.1 hu).1
    rw [h.1] at this; exact this
   rw [h.cellAt j h1]; exact hu
theorem piece_info : (Tryz.prog.info? 265).map (fun i => (i.zero, i.size, i.bytes)) = some (some (.agg #[.int .i64 0, .int .i64 0, .int .i64 0]), 3, 24) := by kernel_rfl
theorem event_info : (Tryz.prog.info? 290).map (fun i => (i.zero, i.size, i.bytes)) = some (some (.agg #[.int .i64 0, .int .i64 0]), 2, 16) := by kernel_rfl
def EvP (l : List Sp) (w : World) (e : Ending) (w' : World) : Prop := ∃ v d, e = .returned v ∧ w'.ownsRow w.heap.size 290 2 v d.length (spV d) ∧ Evs l d ∧ Below w.heap.size w w'
def PiecesP (l : List Sp) (w : World) (e : Ending) (w' : World) : Prop := ∃ v ps, e = .returned v ∧ OwnP w' w.heap.size v ps ∧ PAll l ps ∧ ps.length ≤ 128 ∧ (∀ p ∈ ps, -1152921504606846976 ≤ p.1 ∧ p.2.1 ≤ 1152921504606846976 ∧ p.2.2 ≤ 128) ∧ Below w.heap.size w w'
theorem bgrow {w a b : World} {B g : Nat} (h : Below B w a) (hg : a.grownBy b (some g)) (hB : B ≤ g) (hs : B ≤ a.heap.size) : Below B w b :=
 h.trans ⟨hg.os, hg.tape, hg.output, hg.size, fun k hk => hg.block k (by omega) (fun e => by have := Option.some.inj e; omega)⟩
theorem bgrowO {w a b : World} {B : Nat} {r : Option Nat} (h : Below B w a) (hg : a.grownBy b r) (hB : ∀ j, r = some j → B ≤ j) (hs : B ≤ a.heap.size) : Below B w b :=
 h.trans ⟨hg.os, hg.tape, hg.output, hg.size, fun k hk => hg.block k (by omega) (fun e => by have := hB k e.symm; omega)⟩
end Go.Proofs.YtjgepckncogdaaaGreat
namespace Go.Proofs.YtjgepckncogdaaaGreat
open Go Go.RowKit
set_option linter.unusedVariables false
set_option linter.unusedSimpArgs false
attribute [local go_sem ↓] Go.wp_at_zero Go.wp_at_succ
def LeastP (l : List Sp) (n : Int) (w : World) (e : Ending) (w' : World) : Prop := ∃ v out, e = .returned v ∧ OwnS w' w.heap.size v out ∧ LAll l n out ∧ out.length ≤ 128 ∧ Below w.heap.size w w'
theorem cnt_in {l : List Sp} (h : okV l = true) {t : Int} (ht : 1 ≤ cnt l t) : -1152921504606846976 ≤ t ∧ t ≤ 1152921504606846976 := by
 unfold cnt at ht
 obtain ⟨s, hs, hh⟩ := List.countP_pos_iff.1 (show 0 < l.countP (hol t) by omega)
 have := okV_each h s hs
 unfold vS at this
 unfold hol at hh
 rw [decide_eq_true_iff] at this hh
 omega
theorem len_push {α : Type} {k : Nat} {out : List α} (h : out.length ≤ k) (p : α) : (out ++ [p]).length ≤ k + 1 := by simp; omega
theorem last_split {α : Type} (l : List α) : l = [] ∨ ∃ ini q, l = ini ++ [q] := by
 rcases List.eq_nil_or_concat l with h | ⟨a, b, h⟩
 · exact .inl h
 · exact .inr ⟨a, b, by rw [h, List.concat_eq_append]⟩
theorem least_done {l : List Sp} {n : Int} {w w' : World} {v : Value} {ps : List (Int × Int × Int)} {k : Nat} {out : List Sp} {B : Nat} (hA : PAll l ps) (hi : LInv l n ps k out) (hk : k = ps.length) (h1 : 1 ≤ n) (hl : out.length ≤ k) (hp : ps.length ≤ 128) (ho : OwnS w' B v out) (hB : w.heap.size ≤ B) (hb : Below w.heap.size w w') : LeastP l n w (.returned v) w' := by
 subst hk
 exact ⟨v, out, rfl, row_mono ho hB, hi.all hA h1, by omega, hb⟩
theorem ownS_push {W : World} {base m : Nat} {v : Value} {out : List Sp} {p : Sp} (hm : out.length = m) (h : W.ownsRow base 24 2 v (m + 1) (spV out ++ [.int .i64 p.1, .int .i64 p.2])) : OwnS W base v (out ++ [p]) := by
 unfold OwnS
 rw [spV_append, List.length_append, hm]
 exact h
theorem ownS_set {W : World} {base j g cap : Nat} {ini : List Sp} {q : Sp} (hj : ini.length = j) (h : W.ownsRow base 24 2 (.slice (some ⟨g, 0, none⟩) (j + 1) cap) (j + 1) (spV (ini ++ [q]))) (x : Int) :
 OwnS (W.setCell ⟨g, j * 2 + 1, none⟩ (.int .i64 x)) base (.slice (some ⟨g, 0, none⟩) (j + 1) cap) (ini ++ [(q.1, x)]) ∧ W.grownBy (W.setCell ⟨g, j * 2 + 1, none⟩ (.int .i64 x)) (some g) := by
 have := h.stored (j * 2 + 1) (.int .i64 x)
 unfold OwnS
 rw [← spV_set, List.length_append, hj]
 exact this
set_option maxRecDepth 100000 in
set_option maxHeartbeats 4000000 in
theorem least_any (B : Nat) (u : Value) (l : List Sp) (n : Int) (w : World) (hu : SeesS w B u l) (hB : B ≤ w.heap.size) (hn : l.length ≤ 64) (hok : okV l = true) (h1 : 1 ≤ n) (h2 : n ≤ 1000)
 (hpc : Calls Tryz.prog 235 #[u] w (PiecesP l w)) :
 Calls Tryz.prog 178 #[u, .int .i64 n] w (LeastP l n w) := by
 obtain ⟨A, c, rfl, -, -⟩ := hu.mk_
 obtain ⟨ti, hti, htz, hts, htb⟩ := info_parts span_info
 replace hti := Lib.hid hti
 replace htz := Lib.hid htz
 replace hts := Lib.hid hts
 replace htb := Lib.hid htb
 replace hpc := Lib.hid hpc
 replace hok := Lib.hid hok
 clear hu
 go_enter Tryz.func178, Tryz.ntmps178
 go_wp2_with fail
 refine hpc.out.mono ?_
 rintro e W0 ⟨v, ps, rfl, hs, hA, hpl, hpb, hb0⟩
 obtain ⟨Ap, cp, rfl, -, -⟩ := SeesP.mk_ (Sees.of_own hs)
 have hsP : Hid (SeesP W0 W0.heap.size (.slice Ap ps.length cp) ps) := Sees.of_own hs
 replace hpb := Lib.hid hpb
 replace hA := Lib.hid hA
 have hz0 : Hid (w.heap.size ≤ W0.heap.size) := hb0.size
 replace hb0 := Lib.hid hb0
 clear hs hpc
 dsimp only
 go_wp2_with fail
 go_loopw [5, 7, 8, 12] (fun s _ _ i wr => ∃ (k : Nat) (out : List Sp), k ≤ ps.length ∧ i = .int .i64 k ∧ out.length ≤ k ∧ Hid (OwnS wr W0.heap.size s out) ∧ Hid (LInv l n ps k out) ∧ Hid (Below W0.heap.size W0 wr)) (fun _ _ _ i _ => ps.length - (intOf i).toNat)
 case atStart => exact ⟨0, [], by omega, rfl, by simp, World.ownsRow_nil _ _ _ _, LInv.start, Below.refl _ _⟩
 case round =>
  obtain ⟨k, out, hk, rfl, hol, hs, hi, hb⟩ := hrel
  obtain ⟨As, cs, rfl, -, -⟩ := (Sees.of_own hs.out).mk_
  have hbw : Hid (Below w.heap.size w wr) := bgo hb0.out hb.out
  by_cases hlt : k < ps.length
  · obtain ⟨b, o, rfl, hbB, hds⟩ := SeesP.at_ (Sees.below hsP.out hb.out) (by omega)
    obtain ⟨p, hp⟩ : ∃ p, ps[k]? = some p := ⟨_, List.getElem?_eq_getElem hlt⟩
    obtain ⟨c0, c1, c2⟩ := hds k p hp
    have hpm := hpb.out p (List.mem_of_getElem? hp)
    have hpo := hA.out.2.1 p (List.mem_of_getElem? hp)
    have hpcn := hpo.2 p.1 (Int.le_refl _) hpo.1
    have hple := hpo.1
    have hsk : Hid (p.2.2 < n → LInv l n ps (k + 1) out) := fun h => hi.out.skip hp h
    have hpu : Hid (n ≤ p.2.2 → LInv l n ps (k + 1) (out ++ [(p.1, p.2.1)])) := fun h => hi.out.push hA.out hp h
    have hjo : Hid (∀ ini q, out = ini ++ [q] → n ≤ p.2.2 → q.2 + 1 = p.1 → LInv l n ps (k + 1) (ini ++ [(q.1, p.2.1)])) := fun ini q e h h' => LInv.join hA.out (e ▸ hi.out) hp h h'
    have hqb : Hid (∀ ini q, out = ini ++ [q] → -1152921504606846976 ≤ q.2 ∧ q.2 < p.1) := fun ini q e => by
     have hq := hi.out.2.1 q (by rw [e]; simp)
     have := cnt_in hok.out (t := q.2) (by have := hq.2.2 q.2 hq.1 (Int.le_refl _); omega)
     exact ⟨this.1, hq.2.1 k p (Nat.le_refl _) hp⟩
    obtain ⟨lo, hi', ct⟩ := p
    dsimp only at c0 c1 c2 hpm hsk hpu hjo hqb hpcn hple
    obtain ⟨m1, m2, m3⟩ := hpm
    have m0 : 0 ≤ ct := by omega
    have i0 : (k : Int) < (ps.length : Int) := by omega
    have i1 : (0 : Int) ≤ (k : Int) := by omega
    have x7 := Box.new wr 265 [.int .i64 lo, .int .i64 hi', .int .i64 ct]
    change Box (wr.alloc (.cells #[.int .i64 lo, .int .i64 hi', .int .i64 ct] 265)) _ _ _ at x7
    have hal := Lib.hid (balloc wr (.cells #[.int .i64 lo, .int .i64 hi', .int .i64 ct] 265))
    replace hs := Lib.hid (hs.out.below hal.out)
    replace hb := Lib.hid (bgo hb.out hal.out)
    replace hbw := Lib.hid (bgo hbw.out hal.out)
    replace hp := Lib.hid hp
    clear hds hpcn hpo hi hal
    go_upto_region 5 with (fail)
    generalize wr.alloc (.cells #[.int .i64 lo, .int .i64 hi', .int .i64 ct] 265) = W1 at *
    generalize wr.heap.size = g7 at *
    have y0 : W1.cell? ⟨g7, 0, none⟩ = some (.int .i64 lo) := x7.cell 0
    have y1 : W1.cell? ⟨g7, 1, none⟩ = some (.int .i64 hi') := x7.cell 1
    have y2 : W1.cell? ⟨g7, 2, none⟩ = some (.int .i64 ct) := x7.cell 2
    clear c0 c1 c2
    by_cases hc : ct < n
    · replace hsk := Lib.hid (hsk.out hc)
      clear hpu hjo hqb
      go_wp2_with fail
      go_roundw
      case rel => exact ⟨k + 1, out, by omega, by go_num, by omega, hs, hsk, hb⟩
      case measure => simp [intOf]; omega
    · replace hpu := Lib.hid (hpu.out (by omega))
      clear hsk
      go_upto_region 7 with (fail)
      obtain ⟨m, hm⟩ : ∃ m, out.length = m := ⟨_, rfl⟩
      have hsm : Hid (W1.ownsRow W0.heap.size 24 2 (.slice As m cs) m (spV out)) := by show World.ownsRow _ _ _ _ _ _ _; rw [← hm]; exact hs.out
      rw [hm] at hol ⊢
      clear hs
      rcases last_split out with rfl | ⟨ini, q, rfl⟩
      · obtain rfl : m = 0 := by simpa using hm.symm
        rw [show ((0 : Nat) : Int) = 0 from rfl]
        replace hm := Lib.hid hm
        clear hjo hqb
        go_quiet (fail)
        have hdr := below_drewN (Below.refl W1.heap.size W1) nq
        replace hsm := Lib.hid (own_below hsm.out hdr)
        replace x7 := x7.below hdr
        replace hb := Lib.hid (bgo hb.out hdr)
        replace hbw := Lib.hid (bgo hbw.out hdr)
        clear hdr y0 y1 y2
        generalize W1.drewN nq = W2 at *
        have y0 : W2.cell? ⟨g7, 0, none⟩ = some (.int .i64 lo) := x7.cell 0
        have y1 : W2.cell? ⟨g7, 1, none⟩ = some (.int .i64 hi') := x7.cell 1
        have hrec : Hid (Sees (W2.alloc (.cells #[.int .i64 lo, .int .i64 hi'] 24)) (W2.heap.size + 1) (.slice (some ⟨W2.heap.size, 0, none⟩) 1 1) 2 1 [.int .i64 lo, .int .i64 hi']) := rec_lit W2 24 [.int .i64 lo, .int .i64 hi']
        have hal := balloc W2 (.cells #[.int .i64 lo, .int .i64 hi'] 24)
        replace hsm := Lib.hid (own_below hsm.out hal)
        replace hb := Lib.hid (bgo hb.out hal)
        replace hbw := Lib.hid (bgo hbw.out hal)
        have hzz : Hid (W0.heap.size ≤ (W2.alloc (.cells #[.int .i64 lo, .int .i64 hi'] 24)).heap.size) := hb.out.size
        have hlt2 : Hid (∀ j, (Value.slice As (0) cs).ownBlock = some j → W0.heap.size ≤ j) := fun j hj => (hsm.out.lt j hj).1
        clear hal x7
        go_wp2_with (at_builtin; refine wpList_append_sees (by rfl) _ _ 67 rfl W0.heap.size 24 ti _ 2 16 Tryz.underlying67 hti.out htz.out hts.out htb.out rfl (by omega) _ (0) _ rfl hsm.out _ _ 1 _ rfl hrec.out (by simp [Value.oneCell']) (by unfold maxLen; omega) (by omega) hzz.out ?_)
        intro v3 w3 s3 g3 d3
        replace s3 := Lib.hid (ownS_push (p := (lo, hi')) hm.out s3)
        have hb3 := Lib.hid (bgrowO hb.out g3 hlt2.out hzz.out)
        clear g3 d3 hsm hrec y0 y1 hzz hlt2 hb hbw
        go_wp2_with fail
        go_roundw
        case rel => exact ⟨k + 1, [] ++ [(lo, hi')], by omega, by go_num, len_push (by rw [hm.out]; omega) _, s3, hpu, hb3⟩
        case measure => simp [intOf]; omega
      · obtain ⟨j, hj⟩ : ∃ j, ini.length = j := ⟨_, rfl⟩
        obtain rfl : m = j + 1 := by rw [List.length_append, hj] at hm; simpa using hm.symm
        obtain ⟨q1, q2⟩ := hqb.out ini q rfl
        have hjo' := hjo.out ini q rfl (by omega)
        obtain ⟨g5, c5, e5, g5B, g5l, -, -, hc5⟩ := own_form hsm.out (by omega)
        injection e5 with e5 _ e5'
        subst e5 e5'
        have d0 : W1.cell? ⟨g5, j * 2 + 1, none⟩ = some (.int .i64 q.2) := hc5 _ _ (spV_get _ j q (by rw [← hj]; simp)).2
        have f0 := hsm.out.frozenAt (j * 2 + 1)
        obtain ⟨qa, qb⟩ := q
        dsimp only at q1 q2 hjo' d0
        replace hjo' := Lib.hid hjo'
        have e1 : IntKind.i64.wrap (((j + 1 : Nat) : Int) - 1) = (j : Int) := by rw [IntKind.wrap_i64]; omega
        have e2 : IntKind.i64.wrap (qb + 1) = qb + 1 := by rw [IntKind.wrap_i64]; omega
        have i2 : (0 : Int) ≤ (j : Int) := by omega
        have i3 : (j : Int) < ((j + 1 : Nat) : Int) := by omega
        have i4 : (0 : Int) < ((j + 1 : Nat) : Int) := by omega
        replace hm := Lib.hid hm
        replace hj := Lib.hid hj
        clear hjo hqb hc5
        by_cases hq : qb + 1 = lo
        · have i5 : (qb + 1 == lo) = true := by rw [hq]; simp
          go_quiet (fail)
          have hdr := below_drewN (Below.refl W1.heap.size W1) nq
          replace hsm := Lib.hid (own_below hsm.out hdr)
          replace x7 := x7.below hdr
          replace hb := Lib.hid (bgo hb.out hdr)
          replace hbw := Lib.hid (bgo hbw.out hdr)
          clear hdr y0 y1 y2
          generalize W1.drewN nq = W2 at *
          have y0 : W2.cell? ⟨g7, 0, none⟩ = some (.int .i64 lo) := x7.cell 0
          have y1 : W2.cell? ⟨g7, 1, none⟩ = some (.int .i64 hi') := x7.cell 1
          have hset := ownS_set hj.out hsm.out hi'
          have f0 := hsm.out.frozenAt (j * 2 + 1)
          have d0 : W2.cell? ⟨g5, j * 2 + 1, none⟩ = some (.int .i64 qb) := by rw [hsm.out.cellAt _ (by omega)]; exact (spV_get _ j (qa, qb) (by rw [← hj.out]; simp)).2
          have s3 := Lib.hid hset.1
          have hb3 := Lib.hid (bgrow hb.out hset.2 g5B hb.out.size)
          clear hset x7 hsm hb hbw
          go_wp2_with fail
          go_roundw
          case rel => exact ⟨k + 1, ini ++ [(qa, hi')], by omega, by go_num, by rw [List.length_append, hj.out]; simp; omega, s3, hjo'.out hq, hb3⟩
          case measure => simp [intOf]; omega
        · have i5 : (qb + 1 == lo) = false := by simpa using hq
          go_quiet (fail)
          clear d0 f0
          have hdr := below_drewN (Below.refl W1.heap.size W1) nq
          replace hsm := Lib.hid (own_below hsm.out hdr)
          replace x7 := x7.below hdr
          replace hb := Lib.hid (bgo hb.out hdr)
          replace hbw := Lib.hid (bgo hbw.out hdr)
          clear hdr y0 y1 y2
          generalize W1.drewN nq = W2 at *
          have y0 : W2.cell? ⟨g7, 0, none⟩ = some (.int .i64 lo) := x7.cell 0
          have y1 : W2.cell? ⟨g7, 1, none⟩ = some (.int .i64 hi') := x7.cell 1
          have hrec : Hid (Sees (W2.alloc (.cells #[.int .i64 lo, .int .i64 hi'] 24)) (W2.heap.size + 1) (.slice (some ⟨W2.heap.size, 0, none⟩) 1 1) 2 1 [.int .i64 lo, .int .i64 hi']) := rec_lit W2 24 [.int .i64 lo, .int .i64 hi']
          have hal := balloc W2 (.cells #[.int .i64 lo, .int .i64 hi'] 24)
          replace hsm := Lib.hid (own_below hsm.out hal)
          replace hb := Lib.hid (bgo hb.out hal)
          replace hbw := Lib.hid (bgo hbw.out hal)
          have hzz : Hid (W0.heap.size ≤ (W2.alloc (.cells #[.int .i64 lo, .int .i64 hi'] 24)).heap.size) := hb.out.size
          have hlt2 : Hid (∀ j, (Value.slice (some ⟨g5, 0, none⟩) (j + 1) cs).ownBlock = some j → W0.heap.size ≤ j) := fun j hj => (hsm.out.lt j hj).1
          clear hal x7
          go_wp2_with (at_builtin; refine wpList_append_sees (by rfl) _ _ 67 rfl W0.heap.size 24 ti _ 2 16 Tryz.underlying67 hti.out htz.out hts.out htb.out rfl (by omega) _ (j + 1) _ rfl hsm.out _ _ 1 _ rfl hrec.out (by simp [Value.oneCell']) (by unfold maxLen; omega) (by omega) hzz.out ?_)
          intro v3 w3 s3 g3 d3
          replace s3 := Lib.hid (ownS_push (p := (lo, hi')) hm.out s3)
          have hb3 := Lib.hid (bgrowO hb.out g3 hlt2.out hzz.out)
          clear g3 d3 hsm hrec y0 y1 hzz hlt2 hb hbw
          go_wp2_with fail
          go_roundw
          case rel => exact ⟨k + 1, (ini ++ [(qa, qb)]) ++ [(lo, hi')], by omega, by go_num, len_push (by rw [hm.out]; omega) _, s3, hpu, hb3⟩
          case measure => simp [intOf]; omega
  · obtain rfl : k = ps.length := by omega
    have i0 : ¬ (ps.length : Int) < (ps.length : Int) := by omega
    go_wp2_with fail
    go_returns
    exact least_done hA.out hi.out rfl h1 hol hpl hs.out hz0.out hbw.out
end Go.Proofs.YtjgepckncogdaaaGreat
namespace Go.Proofs.YtjgepckncogdaaaGreat
open Go Go.RowKit
set_option linter.unusedVariables false
set_option linter.unusedSimpArgs false
attribute [local go_sem ↓] Go.wp_at_zero Go.wp_at_succ
theorem ownP_push {W : World} {base m : Nat} {v : Value} {out : List (Int × Int × Int)} {p : Int × Int × Int} (hm : out.length = m) (h : W.ownsRow base 265 3 v (m + 1) (pcV out ++ [.int .i64 p.1, .int .i64 p.2.1, .int .i64 p.2.2])) : OwnP W base v (out ++ [p]) := by
 unfold OwnP
 rw [pcV_append, List.length_append, hm]
 exact h
theorem ownP_set {W : World} {base j g cap : Nat} {ini : List (Int × Int × Int)} {q : Int × Int × Int} (hj : ini.length = j) (h : W.ownsRow base 265 3 (.slice (some ⟨g, 0, none⟩) (j + 1) cap) (j + 1) (pcV (ini ++ [q]))) (x : Int) :
 OwnP (W.setCell ⟨g, j * 3 + 1, none⟩ (.int .i64 x)) base (.slice (some ⟨g, 0, none⟩) (j + 1) cap) (ini ++ [(q.1, x, q.2.2)]) ∧ W.grownBy (W.setCell ⟨g, j * 3 + 1, none⟩ (.int .i64 x)) (some g) := by
 have := h.stored (j * 3 + 1) (.int .i64 x)
 unfold OwnP
 rw [← pcV_set, List.length_append, hj]
 exact this
def PB (ps : List (Int × Int × Int)) : Prop := ∀ p ∈ ps, -1152921504606846976 ≤ p.1 ∧ p.2.1 ≤ 1152921504606846976 ∧ p.2.2 ≤ 128
theorem PB.push {ps : List (Int × Int × Int)} (h : PB ps) {p : Int × Int × Int} (hp : -1152921504606846976 ≤ p.1 ∧ p.2.1 ≤ 1152921504606846976 ∧ p.2.2 ≤ 128) : PB (ps ++ [p]) := by
 intro q hq
 rcases List.mem_append.1 hq with hq | hq
 · exact h q hq
 · rw [List.mem_singleton] at hq; subst hq; exact hp
theorem PB.join {ini : List (Int × Int × Int)} {q : Int × Int × Int} (h : PB (ini ++ [q])) {x : Int} (hx : x ≤ 1152921504606846976) : PB (ini ++ [(q.1, x, q.2.2)]) :=
 PB.push (fun p hp => h p (by simp [hp])) ⟨(h q (by simp)).1, hx, (h q (by simp)).2.2⟩
theorem pieces_done {l : List Sp} {w w' : World} {v : Value} {ps : List (Int × Int × Int)} {d : List (Int × Int)} {B : Nat} (hi : PI l d d.length ps) (hl : ps.length ≤ d.length) (hd : d.length ≤ 128) (hb : PB ps) (ho : OwnP w' B v ps) (hB : w.heap.size ≤ B) (hbw : Below w.heap.size w w') : PiecesP l w (.returned v) w' :=
 ⟨v, ps, rfl, row_mono ho hB, hi.2 rfl, by omega, hb, hbw⟩
set_option maxRecDepth 100000 in
set_option maxHeartbeats 8000000 in
theorem pieces_any (B : Nat) (u : Value) (l : List Sp) (w : World) (hu : SeesS w B u l) (hB : B ≤ w.heap.size) (hn : l.length ≤ 64) (hok : okV l = true)
 (hev : Calls Tryz.prog 273 #[u] w (EvP l w)) :
 Calls Tryz.prog 235 #[u] w (PiecesP l w) := by
 obtain ⟨A, c, rfl, -, -⟩ := hu.mk_
 obtain ⟨ti, hti, htz, hts, htb⟩ := info_parts piece_info
 replace hti := Lib.hid hti
 replace htz := Lib.hid htz
 replace hts := Lib.hid hts
 replace htb := Lib.hid htb
 replace hev := Lib.hid hev
 replace hok := Lib.hid hok
 clear hu
 go_enter Tryz.func235, Tryz.ntmps235
 go_wp2_with fail
 refine hev.out.mono ?_
 rintro e W0 ⟨v, d, rfl, hs, hE, hb0⟩
 obtain ⟨Ap, cp, rfl, -, -⟩ := SeesS.mk_ (Sees.of_own hs)
 have hsP : Hid (SeesS W0 W0.heap.size (.slice Ap d.length cp) d) := Sees.of_own hs
 have hdl : d.length ≤ 128 := by rw [hE.len]; omega
 have hea := Lib.hid (hE.each hok.out)
 have hbd := Lib.hid (byS_bound (d := d) (fun e he => (hea.out e he).1))
 have hend := Lib.hid (byS_end hE hok.out)
 have hst := Lib.hid (PI.start hE hok.out)
 replace hE := Lib.hid hE
 have hz0 : Hid (w.heap.size ≤ W0.heap.size) := hb0.size
 replace hb0 := Lib.hid hb0
 clear hs hev
 dsimp only
 go_wp2_with fail
 go_loopw [3, 5, 6, 7, 8, 9, 14] (fun s ct _ _ _ _ i wr => ∃ (k : Nat) (c0 : Int) (out : List (Int × Int × Int)), k ≤ d.length ∧ i = .int .i64 k ∧ ct = .int .i64 c0 ∧ Hid (byS d k = c0) ∧ out.length ≤ k ∧ Hid (OwnP wr W0.heap.size s out) ∧ Hid (PI l d k out) ∧ Hid (PB out) ∧ Hid (Below W0.heap.size W0 wr)) (fun _ _ _ _ _ _ i _ => d.length - (intOf i).toNat)
 case atStart => exact ⟨0, 0, [], by omega, rfl, rfl, rfl, by simp, World.ownsRow_nil _ _ _ _, hst.out, (fun p hp => absurd hp (by simp)), Below.refl _ _⟩
 case round =>
  obtain ⟨k, c0, out, hk, rfl, rfl, hc0, hol, hs, hi, hpb, hb⟩ := hrel
  obtain ⟨As, cs, rfl, -, -⟩ := (Sees.of_own hs.out).mk_
  have hbw : Hid (Below w.heap.size w wr) := bgo hb0.out hb.out
  by_cases hlt : k < d.length
  · obtain ⟨b, o, rfl, hbB, hds⟩ := SeesS.at_ (Sees.below hsP.out hb.out) (by omega)
    obtain ⟨e, he⟩ : ∃ e, d[k]? = some e := ⟨_, List.getElem?_eq_getElem hlt⟩
    obtain ⟨c0', c1'⟩ := hds k e he
    have hem := hea.out e (List.mem_of_getElem? he)
    have hsucc := byS_succ he
    rw [hc0.out] at hsucc
    have hbk := hbd.out k
    rw [hc0.out] at hbk
    have hE' := hE.out
    have hok' := hok.out
    obtain ⟨at', by'⟩ := e
    dsimp only at c0' c1' hem hsucc
    obtain ⟨hby, ha1, ha2⟩ := hem
    have i0 : (k : Int) < (d.length : Int) := by omega
    have i1 : (0 : Int) ≤ (k : Int) := by omega
    have x7 := Box.new wr 290 [.int .i64 at', .int .i64 by']
    change Box (wr.alloc (.cells #[.int .i64 at', .int .i64 by'] 290)) _ _ _ at x7
    have hal := Lib.hid (balloc wr (.cells #[.int .i64 at', .int .i64 by'] 290))
    have hsE : Hid (SeesS (wr.alloc (.cells #[.int .i64 at', .int .i64 by'] 290)) W0.heap.size (.slice (some ⟨b, o, none⟩) d.length cp) d) := Sees.below hsP.out (hb.out.trans (hal.out.mono hb.out.size))
    replace hs := Lib.hid (own_below hs.out hal.out)
    replace hb := Lib.hid (bgo hb.out hal.out)
    replace hbw := Lib.hid (bgo hbw.out hal.out)
    replace hsucc := Lib.hid hsucc
    clear hds hal
    replace he := Lib.hid he
    replace hE' := Lib.hid hE'
    replace hok' := Lib.hid hok'
    go_upto_region 7 with (fail)
    generalize wr.alloc (.cells #[.int .i64 at', .int .i64 by'] 290) = W1 at *
    generalize wr.heap.size = g7 at *
    have y0 : W1.cell? ⟨g7, 0, none⟩ = some (.int .i64 at') := x7.cell 0
    have y1 : W1.cell? ⟨g7, 1, none⟩ = some (.int .i64 by') := x7.cell 1
    clear c0' c1'
    have hbyb : -1 ≤ by' ∧ by' ≤ 1 := by omega
    obtain ⟨hbya, hbyc⟩ := hbyb
    replace hby := Lib.hid hby
    obtain ⟨c1, hc1⟩ : ∃ c1, c0 + by' = c1 := ⟨_, rfl⟩
    have hc1b : -129 ≤ c1 ∧ c1 ≤ 129 := by omega
    obtain ⟨hc1a, hc1c⟩ := hc1b
    have hcn : Hid (byS d (k + 1) = c1) := by show _ = _; rw [hsucc.out, hc1]
    go_upto_region 8 with (fail)
    replace hc1 := Lib.hid hc1
    have e1 : IntKind.i64.wrap ((k : Int) + 1) = (k : Int) + 1 := by rw [IntKind.wrap_i64]; omega
    have e2 : ((k : Int) + 1).toNat = k + 1 := by omega
    have e3 : (0 : Int) ≤ (k : Int) + 1 := by omega
    by_cases hz : c1 = 0
    · have hnew : Hid (PI l d (k + 1) out) := by
       rcases Nat.lt_or_ge (k + 1) d.length with h | h
       · exact PI.zero hE'.out hok'.out he.out (List.getElem?_eq_getElem h) (hcn.out.trans hz) hi.out
       · exact PI.last hE'.out hok'.out he.out (by omega) hi.out
      have i5 : (c1 == 0) = true := by simpa using hz
      go_quiet (fail)
      clear e1 e2 e3
      have hdr := below_drewN (Below.refl W1.heap.size W1) nq
      replace hs := Lib.hid (own_below hs.out hdr)
      replace x7 := x7.below hdr
      replace hsE := Lib.hid (SeesS.below hsE.out (hdr.mono hb.out.size))
      replace hb := Lib.hid (bgo hb.out hdr)
      replace hbw := Lib.hid (bgo hbw.out hdr)
      clear hdr y0 y1
      generalize W1.drewN nq = W2 at *
      go_wp2_with fail
      go_roundw
      case rel => exact ⟨k + 1, c1, out, by omega, by go_num, rfl, hcn, by omega, hs, hnew, hpb, hb⟩
      case measure => simp [intOf]; omega
    · have hlt2 : k + 1 < d.length := by
       rcases Nat.lt_or_ge (k + 1) d.length with h | h
       · exact h
       · exfalso
         have hkd : k + 1 = d.length := by omega
         have h9 := hend.out
         rw [← hkd] at h9
         exact hz (hcn.out.symm.trans h9)
      have i5 : (c1 == 0) = false := by simpa using hz
      have i6 : ((k : Int) + 1 == (d.length : Int)) = false := by rw [beq_eq_false_iff_ne]; omega
      have i7 : (k : Int) + 1 < (d.length : Int) := by omega
      obtain ⟨e', he'⟩ : ∃ e', d[k + 1]? = some e' := ⟨_, List.getElem?_eq_getElem hlt2⟩
      have hem' := hea.out e' (List.mem_of_getElem? he')
      have hle := hE'.out.le he.out he' (by omega)
      have hsame : Hid (e'.1 = at' → PI l d (k + 1) out) := fun h => PI.same hE'.out he.out he' h hi.out
      have hpush : Hid (e'.1 ≠ at' → PI l d (k + 1) (out ++ [(at', e'.1 - 1, c1)])) := fun h => by have := PI.push hE'.out hok'.out he.out he' h hi.out; rw [hcn.out] at this; exact this
      have hjoin : Hid (∀ ini q, out = ini ++ [q] → e'.1 ≠ at' → q.2.1 + 1 = at' → q.2.2 = c1 → PI l d (k + 1) (ini ++ [(q.1, e'.1 - 1, q.2.2)])) := fun ini q e h h1 h2 => PI.join hE'.out hok'.out he.out he' h h1 (h2.trans hcn.out.symm) (e ▸ hi.out)
      obtain ⟨b2, o2, e9, -, hds⟩ := SeesS.at_ hsE.out (by omega)
      cases e9
      have z0 := (hds (k + 1) e' he').1
      obtain ⟨at2, by2⟩ := e'
      dsimp only at z0 hem' hle hsame hpush hjoin
      obtain ⟨-, ha3, ha4⟩ := hem'
      have hc1d : c1 ≤ 128 := by have := hbd.out (k + 1); rw [hcn.out] at this; omega
      have hqb : Hid (∀ ini q, out = ini ++ [q] → -1152921504606846976 ≤ q.2.1 ∧ q.2.1 < at') := fun ini q e => by
       have h3 := (hi.out.1 _ he.out).2.1 q (by rw [e]; simp)
       have h4 := hpb.out q (by rw [e]; simp)
       exact ⟨by omega, h3.2.1⟩
      clear hds
      replace he' := Lib.hid he'
      by_cases hq : at2 = at'
      · have i8 : (at2 == at') = true := by simpa using hq
        replace hsame := Lib.hid (hsame.out hq)
        clear hpush hjoin
        go_quiet (fail)
        clear e1 e2 e3 z0
        have hdr := below_drewN (Below.refl W1.heap.size W1) nq
        replace hs := Lib.hid (own_below hs.out hdr)
        replace x7 := x7.below hdr
        replace hsE := Lib.hid (SeesS.below hsE.out (hdr.mono hb.out.size))
        replace hb := Lib.hid (bgo hb.out hdr)
        replace hbw := Lib.hid (bgo hbw.out hdr)
        clear hdr y0 y1
        generalize W1.drewN nq = W2 at *
        go_wp2_with fail
        go_roundw
        case rel => exact ⟨k + 1, c1, out, by omega, by go_num, rfl, hcn, by omega, hs, hsame, hpb, hb⟩
        case measure => simp [intOf]; omega
      · have i8 : (at2 == at') = false := by simpa using hq
        replace hpush := Lib.hid (hpush.out hq)
        clear hsame
        go_quiet (fail)
        clear i5 i6 i8 z0
        have hdr := below_drewN (Below.refl W1.heap.size W1) nq
        replace hs := Lib.hid (own_below hs.out hdr)
        replace x7 := x7.below hdr
        replace hsE := Lib.hid (SeesS.below hsE.out (hdr.mono hb.out.size))
        replace hb := Lib.hid (bgo hb.out hdr)
        replace hbw := Lib.hid (bgo hbw.out hdr)
        clear hdr y0 y1
        generalize W1.drewN nq = W2 at *
        have y0 : W2.cell? ⟨g7, 0, none⟩ = some (.int .i64 at') := x7.cell 0
        obtain ⟨b3, o3, e9, -, hds⟩ := SeesS.at_ hsE.out (by omega)
        cases e9
        have z0 := (hds (k + 1) _ he'.out).1
        dsimp only at z0
        clear hds
        have e4 : IntKind.i64.wrap (at2 - 1) = at2 - 1 := by rw [IntKind.wrap_i64]; omega
        go_upto_region 9 with (fail)
        go_region_held3 (fun W => W.cell? ⟨g7, 0, none⟩ = some (.int .i64 at') ∧ W.cell? ⟨b, o + (k + 1) * 2, none⟩ = some (.int .i64 at2)) (go_keep) (fail)
        rename_i hHeld
        clear hHeld
        go_upto_region 11 with (fail)
        have x8 : Box (W2.alloc (.cells #[.int .i64 at', .int .i64 (at2 - 1), .int .i64 c1] 265)).drew W2.heap.size 265 [.int .i64 at', .int .i64 (at2 - 1), .int .i64 c1] := (Box.new W2 265 [.int .i64 at', .int .i64 (at2 - 1), .int .i64 c1]).below (bdrew _)
        have hal := bgo (balloc W2 (.cells #[.int .i64 at', .int .i64 (at2 - 1), .int .i64 c1] 265)) (bdrew _)
        replace hs := Lib.hid (own_below hs.out hal)
        replace x7 := x7.below hal
        replace hb := Lib.hid (bgo hb.out hal)
        replace hbw := Lib.hid (bgo hbw.out hal)
        have hpbn : Hid (-1152921504606846976 ≤ at' ∧ at2 - 1 ≤ 1152921504606846976 ∧ c1 ≤ 128) := by show _ ∧ _; omega
        clear hal hsE y0 z0
        generalize (W2.alloc (.cells #[.int .i64 at', .int .i64 (at2 - 1), .int .i64 c1] 265)).drew = W3 at *
        generalize W2.heap.size = g8 at *
        have y0 : W3.cell? ⟨g7, 0, none⟩ = some (.int .i64 at') := x7.cell 0
        have z0 : W3.cell? ⟨g8, 0, none⟩ = some (.int .i64 at') := x8.cell 0
        have z1 : W3.cell? ⟨g8, 1, none⟩ = some (.int .i64 (at2 - 1)) := x8.cell 1
        have z2 : W3.cell? ⟨g8, 2, none⟩ = some (.int .i64 c1) := x8.cell 2
        clear x7 e1 e2 e3 e4 i7
        obtain ⟨m, hm⟩ : ∃ m, out.length = m := ⟨_, rfl⟩
        have hsm : Hid (W3.ownsRow W0.heap.size 265 3 (.slice As m cs) m (pcV out)) := by show World.ownsRow _ _ _ _ _ _ _; rw [← hm]; exact hs.out
        rw [hm] at hol ⊢
        clear hs
        rcases last_split out with rfl | ⟨ini, q, rfl⟩
        · obtain rfl : m = 0 := by simpa using hm.symm
          rw [show ((0 : Nat) : Int) = 0 from rfl]
          replace hm := Lib.hid hm
          clear hjoin hqb
          go_quiet (fail)
          have hdr := below_drewN (Below.refl W3.heap.size W3) nq
          replace hsm := Lib.hid (own_below hsm.out hdr)
          replace x8 := x8.below hdr
          replace hb := Lib.hid (bgo hb.out hdr)
          replace hbw := Lib.hid (bgo hbw.out hdr)
          clear hdr y0 z0 z1 z2
          generalize W3.drewN nq = W4 at *
          have z0 : W4.cell? ⟨g8, 0, none⟩ = some (.int .i64 at') := x8.cell 0
          have z1 : W4.cell? ⟨g8, 1, none⟩ = some (.int .i64 (at2 - 1)) := x8.cell 1
          have z2 : W4.cell? ⟨g8, 2, none⟩ = some (.int .i64 c1) := x8.cell 2
          have hrec : Hid (Sees (W4.alloc (.cells #[.int .i64 at', .int .i64 (at2 - 1), .int .i64 c1] 265)) (W4.heap.size + 1) (.slice (some ⟨W4.heap.size, 0, none⟩) 1 1) 3 1 [.int .i64 at', .int .i64 (at2 - 1), .int .i64 c1]) := rec_lit W4 265 [.int .i64 at', .int .i64 (at2 - 1), .int .i64 c1]
          have hal := balloc W4 (.cells #[.int .i64 at', .int .i64 (at2 - 1), .int .i64 c1] 265)
          replace hsm := Lib.hid (own_below hsm.out hal)
          replace hb := Lib.hid (bgo hb.out hal)
          replace hbw := Lib.hid (bgo hbw.out hal)
          have hzz : Hid (W0.heap.size ≤ (W4.alloc (.cells #[.int .i64 at', .int .i64 (at2 - 1), .int .i64 c1] 265)).heap.size) := hb.out.size
          have hlt2 : Hid (∀ j, (Value.slice As (0) cs).ownBlock = some j → W0.heap.size ≤ j) := fun j hj => (hsm.out.lt j hj).1
          clear hal x8
          go_wp2_with (at_builtin; refine wpList_append_sees (by rfl) _ _ 262 rfl W0.heap.size 265 ti _ 3 24 Tryz.underlying262 hti.out htz.out hts.out htb.out rfl (by omega) _ (0) _ rfl hsm.out _ _ 1 _ rfl hrec.out (by simp [Value.oneCell']) (by unfold maxLen; omega) (by omega) hzz.out ?_)
          intro v3 w3 s3 g3 d3
          replace s3 := Lib.hid (ownP_push (p := (at', at2 - 1, c1)) hm.out s3)
          have hb3 := Lib.hid (bgrowO hb.out g3 hlt2.out hzz.out)
          clear g3 d3 hsm hrec z0 z1 z2 hzz hlt2 hb hbw
          go_wp2_with fail
          go_roundw
          case rel => exact ⟨k + 1, c1, [] ++ [(at', at2 - 1, c1)], by omega, by go_num, rfl, hcn, len_push (by rw [hm.out]; omega) _, s3, hpush, PB.push hpb.out hpbn.out, hb3⟩
          case measure => simp [intOf]; omega
        · obtain ⟨j, hj⟩ : ∃ j, ini.length = j := ⟨_, rfl⟩
          obtain rfl : m = j + 1 := by rw [List.length_append, hj] at hm; simpa using hm.symm
          obtain ⟨q1, q2⟩ := hqb.out ini q rfl
          have hjo' := hjoin.out ini q rfl hq
          obtain ⟨g5, c5, e5, g5B, g5l, -, -, hc5⟩ := own_form hsm.out (by omega)
          injection e5 with e5 _ e5'
          subst e5 e5'
          have hcs := pcV_get (ini ++ [q]) j q (by rw [← hj]; simp)
          have d1 : W3.cell? ⟨g5, j * 3 + 1, none⟩ = some (.int .i64 q.2.1) := hc5 _ _ hcs.2.1
          have d2 : W3.cell? ⟨g5, j * 3 + 2, none⟩ = some (.int .i64 q.2.2) := hc5 _ _ hcs.2.2
          have f0 := hsm.out.frozenAt (j * 3 + 1)
          have hpj : Hid (PB (ini ++ [(q.1, at2 - 1, q.2.2)])) := PB.join hpb.out (by omega)
          obtain ⟨qa, qb, qc⟩ := q
          dsimp only at q1 q2 hjo' d1 d2 hpj
          replace hjo' := Lib.hid hjo'
          have e1 : IntKind.i64.wrap (((j + 1 : Nat) : Int) - 1) = (j : Int) := by rw [IntKind.wrap_i64]; omega
          have e2 : IntKind.i64.wrap (qb + 1) = qb + 1 := by rw [IntKind.wrap_i64]; omega
          have i2 : (0 : Int) ≤ (j : Int) := by omega
          have i3 : (j : Int) < ((j + 1 : Nat) : Int) := by omega
          have i4 : (0 : Int) < ((j + 1 : Nat) : Int) := by omega
          replace hm := Lib.hid hm
          replace hj := Lib.hid hj
          clear hjoin hqb hc5 hcs
          by_cases hq1 : qc = c1
          · have i5 : (qc == c1) = true := by simpa using hq1
            replace hq1 := Lib.hid hq1
            by_cases hq2 : qb + 1 = at'
            · have i6 : (qb + 1 == at') = true := by simpa using hq2
              replace hq2 := Lib.hid hq2
              go_quiet (fail)
              clear i5 i6
              have hdr := below_drewN (Below.refl W3.heap.size W3) nq
              replace hsm := Lib.hid (own_below hsm.out hdr)
              replace x8 := x8.below hdr
              replace hb := Lib.hid (bgo hb.out hdr)
              replace hbw := Lib.hid (bgo hbw.out hdr)
              clear hdr y0 z0 z1 z2
              generalize W3.drewN nq = W4 at *
              have z0 : W4.cell? ⟨g8, 0, none⟩ = some (.int .i64 at') := x8.cell 0
              have z1 : W4.cell? ⟨g8, 1, none⟩ = some (.int .i64 (at2 - 1)) := x8.cell 1
              have z2 : W4.cell? ⟨g8, 2, none⟩ = some (.int .i64 c1) := x8.cell 2
              have hset := ownP_set hj.out hsm.out (at2 - 1)
              have f0 := hsm.out.frozenAt (j * 3 + 1)
              have d0 : W4.cell? ⟨g5, j * 3 + 1, none⟩ = some (.int .i64 qb) := by rw [hsm.out.cellAt _ (by omega)]; exact (pcV_get _ j (qa, qb, qc) (by rw [← hj.out]; simp)).2.1
              have s3 := Lib.hid hset.1
              have hb3 := Lib.hid (bgrow hb.out hset.2 g5B hb.out.size)
              clear hset hsm hb hbw d1 d2
              go_wp2_with fail
              go_roundw
              case rel => exact ⟨k + 1, c1, ini ++ [(qa, at2 - 1, qc)], by omega, by go_num, rfl, hcn, by rw [List.length_append, hj.out]; simp; omega, s3, hjo'.out hq2.out hq1.out, hpj, hb3⟩
              case measure => simp [intOf]; omega
            · have i6 : (qb + 1 == at') = false := by simpa using hq2
              go_quiet (fail)
              clear d1 d2 f0 i5 i6
              have hdr := below_drewN (Below.refl W3.heap.size W3) nq
              replace hsm := Lib.hid (own_below hsm.out hdr)
              replace x8 := x8.below hdr
              replace hb := Lib.hid (bgo hb.out hdr)
              replace hbw := Lib.hid (bgo hbw.out hdr)
              clear hdr y0 z0 z1 z2
              generalize W3.drewN nq = W4 at *
              have z0 : W4.cell? ⟨g8, 0, none⟩ = some (.int .i64 at') := x8.cell 0
              have z1 : W4.cell? ⟨g8, 1, none⟩ = some (.int .i64 (at2 - 1)) := x8.cell 1
              have z2 : W4.cell? ⟨g8, 2, none⟩ = some (.int .i64 c1) := x8.cell 2
              have hrec : Hid (Sees (W4.alloc (.cells #[.int .i64 at', .int .i64 (at2 - 1), .int .i64 c1] 265)) (W4.heap.size + 1) (.slice (some ⟨W4.heap.size, 0, none⟩) 1 1) 3 1 [.int .i64 at', .int .i64 (at2 - 1), .int .i64 c1]) := rec_lit W4 265 [.int .i64 at', .int .i64 (at2 - 1), .int .i64 c1]
              have hal := balloc W4 (.cells #[.int .i64 at', .int .i64 (at2 - 1), .int .i64 c1] 265)
              replace hsm := Lib.hid (own_below hsm.out hal)
              replace hb := Lib.hid (bgo hb.out hal)
              replace hbw := Lib.hid (bgo hbw.out hal)
              have hzz : Hid (W0.heap.size ≤ (W4.alloc (.cells #[.int .i64 at', .int .i64 (at2 - 1), .int .i64 c1] 265)).heap.size) := hb.out.size
              have hlt2 : Hid (∀ j, (Value.slice (some ⟨g5, 0, none⟩) (j + 1) cs).ownBlock = some j → W0.heap.size ≤ j) := fun j hj => (hsm.out.lt j hj).1
              clear hal x8
              go_wp2_with (at_builtin; refine wpList_append_sees (by rfl) _ _ 262 rfl W0.heap.size 265 ti _ 3 24 Tryz.underlying262 hti.out htz.out hts.out htb.out rfl (by omega) _ (j + 1) _ rfl hsm.out _ _ 1 _ rfl hrec.out (by simp [Value.oneCell']) (by unfold maxLen; omega) (by omega) hzz.out ?_)
              intro v3 w3 s3 g3 d3
              replace s3 := Lib.hid (ownP_push (p := (at', at2 - 1, c1)) hm.out s3)
              have hb3 := Lib.hid (bgrowO hb.out g3 hlt2.out hzz.out)
              clear g3 d3 hsm hrec z0 z1 z2 hzz hlt2 hb hbw
              go_wp2_with fail
              go_roundw
              case rel => exact ⟨k + 1, c1, (ini ++ [(qa, qb, qc)]) ++ [(at', at2 - 1, c1)], by omega, by go_num, rfl, hcn, len_push (by rw [hm.out]; omega) _, s3, hpush, PB.push hpb.out hpbn.out, hb3⟩
              case measure => simp [intOf]; omega
          · have i5 : (qc == c1) = false := by simpa using hq1
            go_quiet (fail)
            clear d1 d2 f0 i5
            have hdr := below_drewN (Below.refl W3.heap.size W3) nq
            replace hsm := Lib.hid (own_below hsm.out hdr)
            replace x8 := x8.below hdr
            replace hb := Lib.hid (bgo hb.out hdr)
            replace hbw := Lib.hid (bgo hbw.out hdr)
            clear hdr y0 z0 z1 z2
            generalize W3.drewN nq = W4 at *
            have z0 : W4.cell? ⟨g8, 0, none⟩ = some (.int .i64 at') := x8.cell 0
            have z1 : W4.cell? ⟨g8, 1, none⟩ = some (.int .i64 (at2 - 1)) := x8.cell 1
            have z2 : W4.cell? ⟨g8, 2, none⟩ = some (.int .i64 c1) := x8.cell 2
            have hrec : Hid (Sees (W4.alloc (.cells #[.int .i64 at', .int .i64 (at2 - 1), .int .i64 c1] 265)) (W4.heap.size + 1) (.slice (some ⟨W4.heap.size, 0, none⟩) 1 1) 3 1 [.int .i64 at', .int .i64 (at2 - 1), .int .i64 c1]) := rec_lit W4 265 [.int .i64 at', .int .i64 (at2 - 1), .int .i64 c1]
            have hal := balloc W4 (.cells #[.int .i64 at', .int .i64 (at2 - 1), .int .i64 c1] 265)
            replace hsm := Lib.hid (own_below hsm.out hal)
            replace hb := Lib.hid (bgo hb.out hal)
            replace hbw := Lib.hid (bgo hbw.out hal)
            have hzz : Hid (W0.heap.size ≤ (W4.alloc (.cells #[.int .i64 at', .int .i64 (at2 - 1), .int .i64 c1] 265)).heap.size) := hb.out.size
            have hlt2 : Hid (∀ j, (Value.slice (some ⟨g5, 0, none⟩) (j + 1) cs).ownBlock = some j → W0.heap.size ≤ j) := fun j hj => (hsm.out.lt j hj).1
            clear hal x8
            go_wp2_with (at_builtin; refine wpList_append_sees (by rfl) _ _ 262 rfl W0.heap.size 265 ti _ 3 24 Tryz.underlying262 hti.out htz.out hts.out htb.out rfl (by omega) _ (j + 1) _ rfl hsm.out _ _ 1 _ rfl hrec.out (by simp [Value.oneCell']) (by unfold maxLen; omega) (by omega) hzz.out ?_)
            intro v3 w3 s3 g3 d3
            replace s3 := Lib.hid (ownP_push (p := (at', at2 - 1, c1)) hm.out s3)
            have hb3 := Lib.hid (bgrowO hb.out g3 hlt2.out hzz.out)
            clear g3 d3 hsm hrec z0 z1 z2 hzz hlt2 hb hbw
            go_wp2_with fail
            go_roundw
            case rel => exact ⟨k + 1, c1, (ini ++ [(qa, qb, qc)]) ++ [(at', at2 - 1, c1)], by omega, by go_num, rfl, hcn, len_push (by rw [hm.out]; omega) _, s3, hpush, PB.push hpb.out hpbn.out, hb3⟩
            case measure => simp [intOf]; omega
  · obtain rfl : k = d.length := by omega
    have i0 : ¬ (d.length : Int) < (d.length : Int) := by omega
    go_wp2_with fail
    go_returns
    exact pieces_done hi.out hol hdl hpb.out hs.out hz0.out hbw.out
end Go.Proofs.YtjgepckncogdaaaGreat

/- Contracts of chain.Nonce, last, Next and of sectimeref31.Nonce, at, Next: the nonce of a query behind an answer. Conditions: bytes and links are seen. -/
import Derived.Test.YtdfnandhdgbgeaaSet8
namespace Go.Proofs.Ytdfnandhdgbgeaa
open Go.RowKit
set_option linter.unusedVariables false
attribute [local go_sem ↓] Go.wp_at_zero Go.wp_at_succ
def nonceC (b x : Bs) : Int := if 2048 < b.length then 2 else if x.length = 32 then 0 else 3
def nonceG (b x : Bs) : Bs := if nonceC b x = 0 then sha (b ++ x) else []
def NonP (b x : Bs) (w : World) (e : Ending) (w' : World) : Prop := ∃ v, e = .returned (.tuple #[v, .int .i64 (nonceC b x)]) ∧ OwnB w' w.heap.size v (nonceG b x) ∧ Below w.heap.size w w'
theorem non_bad {b x : Bs} {c : Int} (h : nonceC b x = c) (hc : c ≠ 0) {w w' : World} {e : Ending} (he : e = .returned (.tuple #[.slice none 0 0, .int .i64 c])) (hb : Below w.heap.size w w') : NonP b x w e w' := by
  refine ⟨.slice none 0 0, by rw [h]; exact he, ?_, hb⟩
  rw [nonceG, h, if_neg hc]
  exact World.ownsRow_nil _ _ _ 1
theorem non_ok {b x : Bs} {C : Int} {G : Bs} (h : nonceC b x = C) (hg : nonceG b x = G) {w w' : World} {v : Value} (f : OwnB w' w.heap.size v G) (hb : Below w.heap.size w w') : NonP b x w (.returned (.tuple #[v, .int .i64 C])) w' :=
  ⟨v, by rw [h], by rw [hg]; exact f, hb⟩
set_option maxRecDepth 100000 in
theorem nonce_any (B B2 : Nat) (u u2 : Value) (b x : Bs) (w : World) (hu : SeesB w B u b) (hB : B ≤ w.heap.size) (hu2 : SeesB w B2 u2 x) (hB2 : B2 ≤ w.heap.size) :
    Calls Try.prog 11 #[u, u2] w (NonP b x w) := by
  have s1 := hu.more hB
  have s2 := hu2.more hB2
  obtain ⟨A, c, rfl, -, -⟩ := hu.mk_
  obtain ⟨A2, c2, rfl, -, -⟩ := hu2.mk_
  clear hu hu2
  by_cases h1 : 2048 < b.length
  · have hc : nonceC b x = 2 := by rw [nonceC, if_pos h1]
    have i0 : (2048 : Int) < (b.length : Int) := by omega
    replace hc := Lib.hid hc
    go_enter Try.func11, Try.ntmps11
    go_wp2_with fail
    go_returns
    exact non_bad hc.out (by decide) rfl (Below.refl _ _)
  · have i0 : ¬ (2048 : Int) < (b.length : Int) := by omega
    by_cases h2 : x.length = 32
    · have hc : nonceC b x = 0 := by rw [nonceC, if_neg h1, if_pos h2]
      have hg : Hid (nonceG b x = sha (b ++ x)) := by show _ = _; rw [nonceG, if_pos hc]
      have i1 : ((x.length : Int) != 32) = false := by simp; omega
      replace h2 := Lib.hid h2
      have hal := balloc w (.cells #[.slice A b.length c, .slice A2 x.length c2] 22)
      have hlit := seesL_lit w 22 (show SeesAll w w.heap.size [.slice A b.length c, .slice A2 x.length c2] [b, x] from ⟨s1, s2, trivial⟩) (by simp [maxLen])
      have hfl : [b, x].flatten = b ++ x := by simp
      have hbx : (b ++ x).length ≤ 1099511627776 := by rw [List.length_append]; have := h2.out; omega
      have hj := join_any _ _ _ _ hlit (Nat.le_refl _) (by rw [hfl]; exact hbx)
      rw [hfl] at hj
      generalize b ++ x = bx at *
      replace hj := Lib.hid hj
      replace hc := Lib.hid hc
      replace hbx := Lib.hid hbx
      clear s1 s2 hlit hfl
      go_enter Try.func11, Try.ntmps11
      go_wp2_with fail
      refine hj.out.mono ?_
      rintro e w1 ⟨v1, rfl, f1, hb1⟩
      have hs := Lib.hid (sum_any _ _ bx w1 f1.sees (Nat.le_refl _) hbx.out)
      obtain ⟨A3, c3, rfl, -, -⟩ := f1.sees.mk_
      have hb := Lib.hid (bgo hal hb1)
      clear hj f1 hal hb1
      dsimp only
      go_wp2_with fail
      refine hs.out.mono ?_
      rintro e w2 ⟨v2, rfl, f2, hb2⟩
      dsimp only
      go_wp2_with fail
      go_returns
      exact non_ok hc.out hg.out (f2.mono hb.out.size) (bgo hb.out hb2)
    · have hc : Hid (nonceC b x = 3) := by show _ = _; rw [nonceC, if_neg h1, if_neg h2]
      have i1 : ¬ (x.length : Int) = 32 := by omega
      clear h2
      go_enter Try.func11, Try.ntmps11
      go_wp2_with fail
      go_returns
      exact non_bad hc.out (by decide) rfl (Below.refl _ _)
set_option maxRecDepth 100000 in
theorem rnonce_any (B B2 : Nat) (u u2 : Value) (b x : Bs) (w : World) (hu : SeesB w B u b) (hB : B ≤ w.heap.size) (hu2 : SeesB w B2 u2 x) (hB2 : B2 ≤ w.heap.size) :
    Calls Try.prog 12 #[u, u2] w (NonP b x w) := by
  have s1 := hu.more hB
  have s2 := hu2.more hB2
  obtain ⟨A, c, rfl, -, -⟩ := hu.mk_
  obtain ⟨A2, c2, rfl, -, -⟩ := hu2.mk_
  clear hu hu2
  by_cases h1 : 2048 < b.length
  · have hc : nonceC b x = 2 := by rw [nonceC, if_pos h1]
    have i0 : (2048 : Int) < (b.length : Int) := by omega
    replace hc := Lib.hid hc
    go_enter Try.func12, Try.ntmps12
    go_wp2_with fail
    go_returns
    exact non_bad hc.out (by decide) rfl (Below.refl _ _)
  · have i0 : ¬ (2048 : Int) < (b.length : Int) := by omega
    by_cases h2 : x.length = 32
    · have hc : nonceC b x = 0 := by rw [nonceC, if_neg h1, if_pos h2]
      have hg : Hid (nonceG b x = sha (b ++ x)) := by show _ = _; rw [nonceG, if_pos hc]
      have i1 : ((x.length : Int) != 32) = false := by simp; omega
      replace h2 := Lib.hid h2
      have hal := balloc w (.cells #[.slice A b.length c, .slice A2 x.length c2] 22)
      have hlit := seesL_lit w 22 (show SeesAll w w.heap.size [.slice A b.length c, .slice A2 x.length c2] [b, x] from ⟨s1, s2, trivial⟩) (by simp [maxLen])
      have hfl : [b, x].flatten = b ++ x := by simp
      have hbx : (b ++ x).length ≤ 1099511627776 := by rw [List.length_append]; have := h2.out; omega
      have hj := rjoin_any _ _ _ _ hlit (Nat.le_refl _) (by rw [hfl]; exact hbx)
      rw [hfl] at hj
      generalize b ++ x = bx at *
      replace hj := Lib.hid hj
      replace hc := Lib.hid hc
      replace hbx := Lib.hid hbx
      clear s1 s2 hlit hfl
      go_enter Try.func12, Try.ntmps12
      go_wp2_with fail
      refine hj.out.mono ?_
      rintro e w1 ⟨v1, rfl, f1, hb1⟩
      have hs := Lib.hid (rsum_any _ _ bx w1 f1.sees (Nat.le_refl _) hbx.out)
      obtain ⟨A3, c3, rfl, -, -⟩ := f1.sees.mk_
      have hb := Lib.hid (bgo hal hb1)
      clear hj f1 hal hb1
      dsimp only
      go_wp2_with fail
      refine hs.out.mono ?_
      rintro e w2 ⟨v2, rfl, f2, hb2⟩
      dsimp only
      go_wp2_with fail
      go_returns
      exact non_ok hc.out hg.out (f2.mono hb.out.size) (bgo hb.out hb2)
    · have hc : Hid (nonceC b x = 3) := by show _ = _; rw [nonceC, if_neg h1, if_neg h2]
      have i1 : ¬ (x.length : Int) = 32 := by omega
      clear h2
      go_enter Try.func12, Try.ntmps12
      go_wp2_with fail
      go_returns
      exact non_bad hc.out (by decide) rfl (Below.refl _ _)
/-- Links as cells. -/
def linkS (ls : List (Bs × Bs × Bs)) : List Spec := ls.flatMap fun t => [.byt t.1, .byt t.2.1, .byt t.2.2]
theorem linkS_len (ls : List (Bs × Bs × Bs)) : (linkS ls).length = ls.length * 3 := by
  induction ls with
  | nil => rfl
  | cons a r ih => simp only [linkS, List.flatMap_cons, List.length_append, List.length_cons, List.length_nil] at *; omega
theorem linkS_get (ls : List (Bs × Bs × Bs)) : ∀ (k : Nat) (t : Bs × Bs × Bs), ls[k]? = some t → (linkS ls)[k * 3]? = some (.byt t.1) ∧ (linkS ls)[k * 3 + 1]? = some (.byt t.2.1) ∧ (linkS ls)[k * 3 + 2]? = some (.byt t.2.2) := by
  induction ls with
  | nil => intro k t h; simp at h
  | cons a r ih =>
    intro k t h
    cases k with
    | zero =>
      simp at h
      subst h
      exact ⟨rfl, rfl, rfl⟩
    | succ k =>
      rw [List.getElem?_cons_succ] at h
      obtain ⟨h1, h2, h3⟩ := ih k t h
      rw [show (k + 1) * 3 = k * 3 + 3 by omega, show k * 3 + 3 + 1 = k * 3 + 1 + 3 by omega, show k * 3 + 3 + 2 = k * 3 + 2 + 3 by omega]
      exact ⟨h1, h2, h3⟩
theorem linkS_append (a b : List (Bs × Bs × Bs)) : linkS (a ++ b) = linkS a ++ linkS b := by simp [linkS]
theorem link_at {w : World} {B n c : Nat} {A : Option Addr} {ls : List (Bs × Bs × Bs)} (h : SeesR w B (.slice A n c) 3 n (linkS ls)) (k : Nat) (t : Bs × Bs × Bs) (hk : ls[k]? = some t) :
    ∃ b o A1 c1 A2 c2 A3 c3, A = some ⟨b, o, none⟩ ∧ b < B ∧ w.cell? ⟨b, o + k * 3, none⟩ = some (.slice A1 t.1.length c1) ∧ SeesB w B (.slice A1 t.1.length c1) t.1 ∧
      w.cell? ⟨b, o + k * 3 + 1, none⟩ = some (.slice A2 t.2.1.length c2) ∧ SeesB w B (.slice A2 t.2.1.length c2) t.2.1 ∧ w.cell? ⟨b, o + k * 3 + 2, none⟩ = some (.slice A3 t.2.2.length c3) ∧ SeesB w B (.slice A3 t.2.2.length c3) t.2.2 := by
  have hl := h.1
  rw [linkS_len] at hl
  have hkl := (List.getElem?_eq_some_iff.1 hk).1
  obtain ⟨b, o, e, hb, hc⟩ := h.at_ (by omega)
  obtain ⟨g1, g2, g3⟩ := linkS_get ls k t hk
  obtain ⟨u1, d1, f1⟩ := hc _ _ g1
  obtain ⟨u2, d2, f2⟩ := hc _ _ g2
  obtain ⟨u3, d3, f3⟩ := hc _ _ g3
  have f1 : SeesB w B u1 t.1 := f1
  have f2 : SeesB w B u2 t.2.1 := f2
  have f3 : SeesB w B u3 t.2.2 := f3
  obtain ⟨A1, c1, rfl, -, -⟩ := f1.mk_
  obtain ⟨A2, c2, rfl, -, -⟩ := f2.mk_
  obtain ⟨A3, c3, rfl, -, -⟩ := f3.mk_
  exact ⟨b, o, A1, c1, A2, c2, A3, c3, e, hb, d1, f1, by rw [Nat.add_assoc]; exact d2, f2, by rw [Nat.add_assoc]; exact d3, f3⟩
def lastA (ls : List (Bs × Bs × Bs)) : Bs := match ls.getLast? with
  | none => []
  | some t => t.2.2
theorem lastA_get (ls : List (Bs × Bs × Bs)) (m : Nat) (t : Bs × Bs × Bs) (hm : ls.length = m + 1) (h : ls[m]? = some t) : lastA ls = t.2.2 := by
  rw [lastA, List.getLast?_eq_getElem?, hm, Nat.add_sub_cancel, h]
set_option maxRecDepth 100000 in
theorem last_any (B : Nat) (u : Value) (ls : List (Bs × Bs × Bs)) (w : World) (hu : SeesR w B u 3 ls.length (linkS ls)) :
    Calls Try.prog 34 #[u] w fun e w' => ∃ v, e = .returned v ∧ SeesB w B v (lastA ls) ∧ w' = w := by
  obtain ⟨A, c, rfl, hc1, hc2⟩ := hu.mk_
  rcases Nat.eq_zero_or_pos ls.length with h0 | h0
  · have hn : ls = [] := List.eq_nil_of_length_eq_zero h0
    subst hn
    go_enter Try.func34, Try.ntmps34
    go_wp2_with fail
    go_returns
    exact ⟨_, rfl, SeesB.nil _ _, rfl⟩
  · obtain ⟨m, hm⟩ : ∃ m, ls.length = m + 1 := ⟨ls.length - 1, by omega⟩
    obtain ⟨t, ht⟩ : ∃ t, ls[m]? = some t := ⟨ls[m]'(by omega), List.getElem?_eq_getElem (by omega)⟩
    obtain ⟨b, o, A1, c1, A2, c2, A3, c3, rfl, hb, -, -, -, -, x2, s3⟩ := link_at hu m t ht
    have hl := Lib.hid (lastA_get ls m t hm ht)
    have i0 : ¬ (ls.length : Int) = 0 := by omega
    have i1 : (ls.length : Int) - 1 = (m : Int) := by omega
    have i2 : (m : Int) < (ls.length : Int) := by omega
    unfold maxLen at hc2
    have i3 : (ls.length : Int) ≤ 9223372036854775807 := by omega
    generalize t.2.2 = a at *
    replace hm := Lib.hid hm
    replace ht := Lib.hid ht
    replace s3 := Lib.hid s3
    clear hu hc1 hc2
    go_enter Try.func34, Try.ntmps34
    go_wp2_with fail
    go_returns
    exact ⟨_, rfl, by rw [hl.out]; exact s3.out, rfl⟩
def nextC (ls : List (Bs × Bs × Bs)) (x : Bs) : Int := if 8 ≤ ls.length then 8 else nonceC (lastA ls) x
def nextG (ls : List (Bs × Bs × Bs)) (x : Bs) : Bs := if 8 ≤ ls.length then [] else nonceG (lastA ls) x
def NextP (ls : List (Bs × Bs × Bs)) (x : Bs) (w : World) (e : Ending) (w' : World) : Prop := ∃ v, e = .returned (.tuple #[v, .int .i64 (nextC ls x)]) ∧ OwnB w' w.heap.size v (nextG ls x) ∧ Below w.heap.size w w'
theorem next_bad {ls : List (Bs × Bs × Bs)} {x : Bs} (h : 8 ≤ ls.length) {w w' : World} {e : Ending} (he : e = .returned (.tuple #[.slice none 0 0, .int .i64 8])) (hb : Below w.heap.size w w') : NextP ls x w e w' := by
  refine ⟨.slice none 0 0, by rw [nextC, if_pos h]; exact he, ?_, hb⟩
  rw [nextG, if_pos h]
  exact World.ownsRow_nil _ _ _ 1
theorem next_ok {ls : List (Bs × Bs × Bs)} {x : Bs} (h : ¬ 8 ≤ ls.length) {w w' : World} {v : Value} {C : Int} {G : Bs} (hC : nonceC (lastA ls) x = C) (hG : nonceG (lastA ls) x = G) (f : OwnB w' w.heap.size v G) (hb : Below w.heap.size w w') : NextP ls x w (.returned (.tuple #[v, .int .i64 C])) w' :=
  ⟨v, by rw [nextC, if_neg h, hC], by rw [nextG, if_neg h, hG]; exact f, hb⟩
set_option maxRecDepth 100000 in
theorem next_any (B B2 : Nat) (u u2 : Value) (ls : List (Bs × Bs × Bs)) (x : Bs) (w : World) (hu : SeesR w B u 3 ls.length (linkS ls)) (hB : B ≤ w.heap.size) (hu2 : SeesB w B2 u2 x) (hB2 : B2 ≤ w.heap.size) :
    Calls Try.prog 13 #[u, u2] w (NextP ls x w) := by
  have hla := Lib.hid (last_any B u ls w hu)
  have hno := Lib.hid (fun v (h : SeesB w B v (lastA ls)) => nonce_any B B2 v u2 (lastA ls) x w h hB hu2 hB2)
  obtain ⟨A, c, rfl, hc1, hc2⟩ := hu.mk_
  obtain ⟨A2, c2, rfl, -, -⟩ := hu2.mk_
  clear hu hu2
  by_cases h8 : 8 ≤ ls.length
  · have i0 : (8 : Int) ≤ (ls.length : Int) := by omega
    go_enter Try.func13, Try.ntmps13
    go_wp2_with fail
    go_returns
    exact next_bad h8 rfl (Below.refl _ _)
  · have i0 : ¬ (8 : Int) ≤ (ls.length : Int) := by omega
    go_enter Try.func13, Try.ntmps13
    go_wp2_with fail
    refine hla.out.mono ?_
    rintro e w1 ⟨v, rfl, hv, rfl⟩
    have hn := Lib.hid (hno.out v hv)
    clear hla hno
    obtain ⟨A3, c3, rfl, -, -⟩ := hv.mk_
    dsimp only
    go_wp2_with fail
    refine hn.out.mono ?_
    rintro e w2 ⟨v2, rfl, f2, hb2⟩
    generalize hC : nonceC (lastA ls) x = C at *
    replace hC := Lib.hid hC
    dsimp only
    go_wp2_with fail
    go_returns
    exact next_ok h8 hC.out rfl f2 hb2
set_option maxRecDepth 100000 in
theorem rat_any (B B2 : Nat) (u u2 : Value) (ls : List (Bs × Bs × Bs)) (x : Bs) (w : World) (hu : SeesR w B u 3 ls.length (linkS ls)) (hB : B ≤ w.heap.size) (hu2 : SeesB w B2 u2 x) (hB2 : B2 ≤ w.heap.size) (h8 : ls.length ≤ 8) (i : Nat) (hi : i ≤ ls.length) :
    Calls Try.prog 35 #[u, .int .i64 (i : Int), u2] w (NonP (lastA (ls.take i)) x w) := by
  obtain ⟨A, c, rfl, hc1, hc2⟩ := hu.mk_
  have hno := Lib.hid (fun v a (h : SeesB w B v a) => rnonce_any B B2 v u2 a x w h hB hu2 hB2)
  obtain ⟨A2, c2, rfl, -, -⟩ := hu2.mk_
  rcases Nat.eq_zero_or_pos i with h0 | h0
  · subst h0
    have hn := Lib.hid (hno.out (.slice none 0 0) [] (SeesB.nil _ _))
    rw [show lastA (ls.take 0) = [] from rfl]
    clear hno hu2 hu
    go_enter Try.func35, Try.ntmps35
    go_wp2_with fail
    refine hn.out.mono ?_
    rintro e w2 ⟨v2, rfl, f2, hb2⟩
    generalize hC : nonceC [] x = C at *
    replace hC := Lib.hid hC
    dsimp only
    go_wp2_with fail
    go_returns
    exact non_ok hC.out rfl f2 hb2
  · obtain ⟨m, rfl⟩ : ∃ m, i = m + 1 := ⟨i - 1, by omega⟩
    obtain ⟨t, ht⟩ : ∃ t, ls[m]? = some t := ⟨ls[m]'(by omega), List.getElem?_eq_getElem (by omega)⟩
    obtain ⟨b, o, A1, c1, A4, c4, A3, c3, rfl, hb, -, -, -, -, x2, s3⟩ := link_at hu m t ht
    have hl := lastA_get (ls.take (m + 1)) m t (by rw [List.length_take]; omega) (by rw [List.getElem?_take, if_pos (by omega)]; exact ht)
    have i0 : ¬ ((m + 1 : Nat) : Int) = 0 := by omega
    have i1 : ((m + 1 : Nat) : Int) - 1 = (m : Int) := by omega
    have i2 : (m : Int) < (ls.length : Int) := by omega
    rw [hl]
    generalize t.2.2 = a at *
    have hn := Lib.hid (hno.out _ a s3)
    generalize lastA (ls.take (m + 1)) = la at *
    replace hl := Lib.hid hl
    replace ht := Lib.hid ht
    clear hno hu2 hu s3 hc1 hc2
    have i3 : (((m + 1 : Nat) : Int) == 0) = false := by rw [beq_eq_false_iff_ne]; omega
    generalize hi1 : ((m + 1 : Nat) : Int) = I at *
    replace hi1 := Lib.hid hi1
    have i4 : IntKind.i64.wrap (I - 1) = (m : Int) := by rw [i1, IntKind.wrap_i64]; have := hi1.out; omega
    have i5 : 1 ≤ I ∧ I ≤ 8 := by have := hi1.out; omega
    obtain ⟨i5, i6⟩ := i5
    go_enter Try.func35, Try.ntmps35
    go_wp2_with fail
    refine hn.out.mono ?_
    rintro e w2 ⟨v2, rfl, f2, hb2⟩
    generalize hC : nonceC a x = C at *
    replace hC := Lib.hid hC
    dsimp only
    go_wp2_with fail
    go_returns
    exact non_ok hC.out rfl f2 hb2
set_option maxRecDepth 100000 in
theorem rnext_any (B B2 : Nat) (u u2 : Value) (ls : List (Bs × Bs × Bs)) (x : Bs) (w : World) (hu : SeesR w B u 3 ls.length (linkS ls)) (hB : B ≤ w.heap.size) (hu2 : SeesB w B2 u2 x) (hB2 : B2 ≤ w.heap.size) :
    Calls Try.prog 14 #[u, u2] w (NextP ls x w) := by
  by_cases h8 : 8 ≤ ls.length
  · obtain ⟨A, c, rfl, hc1, hc2⟩ := hu.mk_
    obtain ⟨A2, c2, rfl, -, -⟩ := hu2.mk_
    clear hu hu2
    have i0 : (8 : Int) ≤ (ls.length : Int) := by omega
    go_enter Try.func14, Try.ntmps14
    go_wp2_with fail
    go_returns
    exact next_bad h8 rfl (Below.refl _ _)
  · have hat := rat_any B B2 u u2 ls x w hu hB hu2 hB2 (by omega) ls.length (Nat.le_refl _)
    rw [List.take_of_length_le (Nat.le_refl _)] at hat
    replace hat := Lib.hid hat
    obtain ⟨A, c, rfl, hc1, hc2⟩ := hu.mk_
    obtain ⟨A2, c2, rfl, -, -⟩ := hu2.mk_
    clear hu hu2
    have i0 : ¬ (8 : Int) ≤ (ls.length : Int) := by omega
    go_enter Try.func14, Try.ntmps14
    go_wp2_with fail
    refine hat.out.mono ?_
    rintro e w2 ⟨v2, rfl, f2, hb2⟩
    generalize hC : nonceC (lastA ls) x = C at *
    replace hC := Lib.hid hC
    dsimp only
    go_wp2_with fail
    go_returns
    exact next_ok h8 hC.out rfl f2 hb2
end Go.Proofs.Ytdfnandhdgbgeaa

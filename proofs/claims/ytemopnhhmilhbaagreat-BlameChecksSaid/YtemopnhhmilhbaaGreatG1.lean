/- Contracts that a law leans on, and its walk. Conditions: those of each theorem. -/
import Derived.Test.YtemopnhhmilhbaaGreatD14
import Derived.Test.YtemopnhhmilhbaaGreatD23
import Derived.RangeFuncCalls
import Derived.Shelf.RegionOpen
import Derived.Sort.CutIn
import Derived.Test.YtemopnhhmilhbaaGreatD9
import Derived.Test.YtemopnhhmilhbaaGreatD12
import Derived.Test.YtemopnhhmilhbaaGreatD5
import Derived.BigQuiet
import Derived.Test.YtemopnhhmilhbaaGreatD13
import Derived.Test.YtemopnhhmilhbaaGreatD19
import Derived.Test.YtemopnhhmilhbaaGreatD28
import Derived.Deep.RegionHeld3
import Derived.Test.YtemopnhhmilhbaaGreatD15
import Derived.Test.YtemopnhhmilhbaaGreatD29
namespace Go.Proofs.YtemopnhhmilhbaaGreat
open Go.RowKit
set_option linter.unusedVariables false
attribute [local go_sem ↓] Go.wp_at_zero Go.wp_at_succ
def nonceC (b x : Bs) : Int := if 2048 < b.length then 2 else if x.length = 32 then 0 else 3
def nonceG (b x : Bs) : Bs := if nonceC b x = 0 then sha (b ++ x) else []
def NonP (b x : Bs) (w : World) (e : Ending) (w' : World) : Prop := ∃ v, e = .returned (.tuple #[v, .int .i64 (nonceC b x)]) ∧ OwnB w' w.heap.size v (nonceG b x) ∧ Below w.heap.size w w'
theorem non_bad {b x : Bs} {c : Int} (h : nonceC b x = c) (hc : c ≠ 0) {w w' : World} {e : Ending} (he : e = .returned (.tuple #[.slice none 0 0, .int .i64 c])) (hb : Below w.heap.size w w') : NonP b x w e w' := by
 refine ⟨.slice none 0 0, by rw [h]; exact he, ?_, hb⟩
 rw [nonceG, h, if_neg hc]
 exact World.ownsRow_nil _ _ _ 1
theorem non_ok {b x : Bs} {C : Int} {G : Bs} (h : nonceC b x = C) (hg : nonceG b x = G) {w w' : World} {v : Value} (f : OwnB w' w.heap.size v G) (hb : Below w.heap.size w w') : NonP b x w (.returned (.tuple #[v, .int .i64 C])) w' :=
 ⟨v, by rw [h], by rw [hg]; exact f, hb⟩
set_option maxRecDepth 100000 in
theorem nonce_any (B B2 : Nat) (u u2 : Value) (b x : Bs) (w : World) (hu : SeesB w B u b) (hB : B ≤ w.heap.size) (hu2 : SeesB w B2 u2 x) (hB2 : B2 ≤ w.heap.size) :
 Calls Tryz.prog 71 #[u, u2] w (NonP b x w) := by
 have s1 := hu.more hB
 have s2 := hu2.more hB2
 obtain ⟨A, c, rfl, -, -⟩ := hu.mk_
 obtain ⟨A2, c2, rfl, -, -⟩ := hu2.mk_
 clear hu hu2
 by_cases h1 : 2048 < b.length
 · have hc : nonceC b x = 2 := by rw [nonceC, if_pos h1]
   have i0 : (2048 : Int) < (b.length : Int) := by omega
   replace hc := Lib.hid hc
   go_enter Tryz.func71, Tryz.ntmps71
   go_wp2_with fail
   go_returns
   exact non_bad hc.out (by decide) rfl (Below.refl _ _)
 · have i0 : ¬ (2048 : Int) < (b.length : Int) := by omega
   by_cases h2 : x.length = 32
   · have hc : nonceC b x = 0 := by rw [nonceC, if_neg h1, if_pos h2]
     have hg : Hid (nonceG b x = sha (b ++ x)) := by show _ = _; rw [nonceG, if_pos hc]
     have i1 : ((x.length : Int) != 32) = false := by simp; omega
     replace h2 := Lib.hid h2
     have hal := balloc w (.cells #[.slice A b.length c, .slice A2 x.length c2] 29)
     have hlit := seesL_lit w 29 (show SeesAll w w.heap.size [.slice A b.length c, .slice A2 x.length c2] [b, x] from ⟨s1, s2, trivial⟩) (by simp [maxLen])
     have hfl : [b, x].flatten = b ++ x := by simp
     have hbx : (b ++ x).length ≤ 1099511627776 := by rw [List.length_append]; have := h2.out; omega
     have hj := join_any _ _ _ _ hlit (Nat.le_refl _) (by rw [hfl]; exact hbx)
     rw [hfl] at hj
     generalize b ++ x = bx at *
     replace hj := Lib.hid hj
     replace hc := Lib.hid hc
     replace hbx := Lib.hid hbx
     clear s1 s2 hlit hfl
     go_enter Tryz.func71, Tryz.ntmps71
     go_wp2_with fail
     refine hj.out.mono ?_
     rintro e w1 ⟨v1, rfl, f1, hb1⟩
     have hs := Lib.hid (sum_any _ _ bx w1 f1.sees (Nat.le_refl _) hbx.out)
     obtain ⟨A3, c3, rfl, -, -⟩ := f1.sees.mk_
     have hb := Lib.hid (bgo hal hb1)
     clear hj f1 hal hb1
     dsimp only
     go_wp2_with fail
     refine hs.out.mono ?_
     rintro e w2 ⟨v2, rfl, f2, hb2⟩
     dsimp only
     go_wp2_with fail
     go_returns
     exact non_ok hc.out hg.out (f2.mono hb.out.size) (bgo hb.out hb2)
   · have hc : Hid (nonceC b x = 3) := by show _ = _; rw [nonceC, if_neg h1, if_neg h2]
     have i1 : ¬ (x.length : Int) = 32 := by omega
     clear h2
     go_enter Tryz.func71, Tryz.ntmps71
     go_wp2_with fail
     go_returns
     exact non_bad hc.out (by decide) rfl (Below.refl _ _)
set_option maxRecDepth 100000 in
theorem rnonce_any (B B2 : Nat) (u u2 : Value) (b x : Bs) (w : World) (hu : SeesB w B u b) (hB : B ≤ w.heap.size) (hu2 : SeesB w B2 u2 x) (hB2 : B2 ≤ w.heap.size) :
 Calls Tryz.prog 134 #[u, u2] w (NonP b x w) := by
 have s1 := hu.more hB
 have s2 := hu2.more hB2
 obtain ⟨A, c, rfl, -, -⟩ := hu.mk_
 obtain ⟨A2, c2, rfl, -, -⟩ := hu2.mk_
 clear hu hu2
 by_cases h1 : 2048 < b.length
 · have hc : nonceC b x = 2 := by rw [nonceC, if_pos h1]
   have i0 : (2048 : Int) < (b.length : Int) := by omega
   replace hc := Lib.hid hc
   go_enter Tryz.func134, Tryz.ntmps134
   go_wp2_with fail
   go_returns
   exact non_bad hc.out (by decide) rfl (Below.refl _ _)
 · have i0 : ¬ (2048 : Int) < (b.length : Int) := by omega
   by_cases h2 : x.length = 32
   · have hc : nonceC b x = 0 := by rw [nonceC, if_neg h1, if_pos h2]
     have hg : Hid (nonceG b x = sha (b ++ x)) := by show _ = _; rw [nonceG, if_pos hc]
     have i1 : ((x.length : Int) != 32) = false := by simp; omega
     replace h2 := Lib.hid h2
     have hal := balloc w (.cells #[.slice A b.length c, .slice A2 x.length c2] 29)
     have hlit := seesL_lit w 29 (show SeesAll w w.heap.size [.slice A b.length c, .slice A2 x.length c2] [b, x] from ⟨s1, s2, trivial⟩) (by simp [maxLen])
     have hfl : [b, x].flatten = b ++ x := by simp
     have hbx : (b ++ x).length ≤ 1099511627776 := by rw [List.length_append]; have := h2.out; omega
     have hj := rjoin_any _ _ _ _ hlit (Nat.le_refl _) (by rw [hfl]; exact hbx)
     rw [hfl] at hj
     generalize b ++ x = bx at *
     replace hj := Lib.hid hj
     replace hc := Lib.hid hc
     replace hbx := Lib.hid hbx
     clear s1 s2 hlit hfl
     go_enter Tryz.func134, Tryz.ntmps134
     go_wp2_with fail
     refine hj.out.mono ?_
     rintro e w1 ⟨v1, rfl, f1, hb1⟩
     have hs := Lib.hid (rsum_any _ _ bx w1 f1.sees (Nat.le_refl _) hbx.out)
     obtain ⟨A3, c3, rfl, -, -⟩ := f1.sees.mk_
     have hb := Lib.hid (bgo hal hb1)
     clear hj f1 hal hb1
     dsimp only
     go_wp2_with fail
     refine hs.out.mono ?_
     rintro e w2 ⟨v2, rfl, f2, hb2⟩
     dsimp only
     go_wp2_with fail
     go_returns
     exact non_ok hc.out hg.out (f2.mono hb.out.size) (bgo hb.out hb2)
   · have hc : Hid (nonceC b x = 3) := by show _ = _; rw [nonceC, if_neg h1, if_neg h2]
     have i1 : ¬ (x.length : Int) = 32 := by omega
     clear h2
     go_enter Tryz.func134, Tryz.ntmps134
     go_wp2_with fail
     go_returns
     exact non_bad hc.out (by decide) rfl (Below.refl _ _)
/-- Links as cells. -/
def linkS (ls : List (Bs × Bs × Bs)) : List Spec := ls.flatMap fun t => [.byt t.1, .byt t.2.1, .byt t.2.2]
theorem linkS_len (ls : List (Bs × Bs × Bs)) : (linkS ls).length = ls.length * 3 := by
 induction ls with
 | nil => rfl
 | cons a r ih => simp only [linkS, List.flatMap_cons, List.length_append, List.length_cons, List.length_nil] at *; omega
theorem linkS_get (ls : List (Bs × Bs × Bs)) : ∀ (k : Nat) (t : Bs × Bs × Bs), ls[k]? = some t → (linkS ls)[k * 3]? = some (.byt t.1) ∧ (linkS ls)[k * 3 + 1]? = some (.byt t.2.1) ∧ (linkS ls)[k * 3 + 2]? = some (.byt t.2.2) := by
 induction ls with
 | nil => intro k t h; simp at h
 | cons a r ih =>
   intro k t h
   cases k with
   | zero =>
     simp at h
     subst h
     exact ⟨rfl, rfl, rfl⟩
   | succ k =>
     rw [List.getElem?_cons_succ] at h
     obtain ⟨h1, h2, h3⟩ := ih k t h
     rw [show (k + 1) * 3 = k * 3 + 3 by omega, show k * 3 + 3 + 1 = k * 3 + 1 + 3 by omega, show k * 3 + 3 + 2 = k * 3 + 2 + 3 by omega]
     exact ⟨h1, h2, h3⟩
theorem linkS_append (a b : List (Bs × Bs × Bs)) : linkS (a ++ b) = linkS a ++ linkS b := by simp [linkS]
theorem link_at {w : World} {B n c : Nat} {A : Option Addr} {ls : List (Bs × Bs × Bs)} (h : SeesR w B (.slice A n c) 3 n (linkS ls)) (k : Nat) (t : Bs × Bs × Bs) (hk : ls[k]? = some t) :
 ∃ b o A1 c1 A2 c2 A3 c3, A = some ⟨b, o, none⟩ ∧ b < B ∧ w.cell? ⟨b, o + k * 3, none⟩ = some (.slice A1 t.1.length c1) ∧ SeesB w B (.slice A1 t.1.length c1) t.1 ∧
  w.cell? ⟨b, o + k * 3 + 1, none⟩ = some (.slice A2 t.2.1.length c2) ∧ SeesB w B (.slice A2 t.2.1.length c2) t.2.1 ∧ w.cell? ⟨b, o + k * 3 + 2, none⟩ = some (.slice A3 t.2.2.length c3) ∧ SeesB w B (.slice A3 t.2.2.length c3) t.2.2 := by
 have hl := h.1
 rw [linkS_len] at hl
 have hkl := (List.getElem?_eq_some_iff.1 hk).1
 obtain ⟨b, o, e, hb, hc⟩ := h.at_ (by omega)
 obtain ⟨g1, g2, g3⟩ := linkS_get ls k t hk
 obtain ⟨u1, d1, f1⟩ := hc _ _ g1
 obtain ⟨u2, d2, f2⟩ := hc _ _ g2
 obtain ⟨u3, d3, f3⟩ := hc _ _ g3
 have f1 : SeesB w B u1 t.1 := f1
 have f2 : SeesB w B u2 t.2.1 := f2
 have f3 : SeesB w B u3 t.2.2 := f3
 obtain ⟨A1, c1, rfl, -, -⟩ := f1.mk_
 obtain ⟨A2, c2, rfl, -, -⟩ := f2.mk_
 obtain ⟨A3, c3, rfl, -, -⟩ := f3.mk_
 exact ⟨b, o, A1, c1, A2, c2, A3, c3, e, hb, d1, f1, by rw [Nat.add_assoc]; exact d2, f2, by rw [Nat.add_assoc]; exact d3, f3⟩
def lastA (ls : List (Bs × Bs × Bs)) : Bs := match ls.getLast? with
 | none => []
 | some t => t.2.2
theorem lastA_get (ls : List (Bs × Bs × Bs)) (m : Nat) (t : Bs × Bs × Bs) (hm : ls.length = m + 1) (h : ls[m]? = some t) : lastA ls = t.2.2 := by
 rw [lastA, List.getLast?_eq_getElem?, hm, Nat.add_sub_cancel, h]
def nextC (ls : List (Bs × Bs × Bs)) (x : Bs) : Int := if 8 ≤ ls.length then 8 else nonceC (lastA ls) x
def nextG (ls : List (Bs × Bs × Bs)) (x : Bs) : Bs := if 8 ≤ ls.length then [] else nonceG (lastA ls) x
def NextP (ls : List (Bs × Bs × Bs)) (x : Bs) (w : World) (e : Ending) (w' : World) : Prop := ∃ v, e = .returned (.tuple #[v, .int .i64 (nextC ls x)]) ∧ OwnB w' w.heap.size v (nextG ls x) ∧ Below w.heap.size w w'
theorem next_bad {ls : List (Bs × Bs × Bs)} {x : Bs} (h : 8 ≤ ls.length) {w w' : World} {e : Ending} (he : e = .returned (.tuple #[.slice none 0 0, .int .i64 8])) (hb : Below w.heap.size w w') : NextP ls x w e w' := by
 refine ⟨.slice none 0 0, by rw [nextC, if_pos h]; exact he, ?_, hb⟩
 rw [nextG, if_pos h]
 exact World.ownsRow_nil _ _ _ 1
theorem next_ok {ls : List (Bs × Bs × Bs)} {x : Bs} (h : ¬ 8 ≤ ls.length) {w w' : World} {v : Value} {C : Int} {G : Bs} (hC : nonceC (lastA ls) x = C) (hG : nonceG (lastA ls) x = G) (f : OwnB w' w.heap.size v G) (hb : Below w.heap.size w w') : NextP ls x w (.returned (.tuple #[v, .int .i64 C])) w' :=
 ⟨v, by rw [nextC, if_neg h, hC], by rw [nextG, if_neg h, hG]; exact f, hb⟩
set_option maxRecDepth 100000 in
theorem rat_any (B B2 : Nat) (u u2 : Value) (ls : List (Bs × Bs × Bs)) (x : Bs) (w : World) (hu : SeesR w B u 3 ls.length (linkS ls)) (hB : B ≤ w.heap.size) (hu2 : SeesB w B2 u2 x) (hB2 : B2 ≤ w.heap.size) (h8 : ls.length ≤ 8) (i : Nat) (hi : i ≤ ls.length) :
 Calls Tryz.prog 72 #[u, .int .i64 (i : Int), u2] w (NonP (lastA (ls.take i)) x w) := by
 obtain ⟨A, c, rfl, hc1, hc2⟩ := hu.mk_
 have hno := Lib.hid (fun v a (h : SeesB w B v a) => rnonce_any B B2 v u2 a x w h hB hu2 hB2)
 obtain ⟨A2, c2, rfl, -, -⟩ := hu2.mk_
 rcases Nat.eq_zero_or_pos i with h0 | h0
 · subst h0
   have hn := Lib.hid (hno.out (.slice none 0 0) [] (SeesB.nil _ _))
   rw [show lastA (ls.take 0) = [] from rfl]
   clear hno hu2 hu
   go_enter Tryz.func72, Tryz.ntmps72
   go_wp2_with fail
   refine hn.out.mono ?_
   rintro e w2 ⟨v2, rfl, f2, hb2⟩
   generalize hC : nonceC [] x = C at *
   replace hC := Lib.hid hC
   dsimp only
   go_wp2_with fail
   go_returns
   exact non_ok hC.out rfl f2 hb2
 · obtain ⟨m, rfl⟩ : ∃ m, i = m + 1 := ⟨i - 1, by omega⟩
   obtain ⟨t, ht⟩ : ∃ t, ls[m]? = some t := ⟨ls[m]'(by omega), List.getElem?_eq_getElem (by omega)⟩
   obtain ⟨b, o, A1, c1, A4, c4, A3, c3, rfl, hb, -, -, -, -, x2, s3⟩ := link_at hu m t ht
   have hl := lastA_get (ls.take (m + 1)) m t (by rw [List.length_take]; omega) (by rw [List.getElem?_take, if_pos (by omega)]; exact ht)
   have i0 : ¬ ((m + 1 : Nat) : Int) = 0 := by omega
   have i1 : ((m + 1 : Nat) : Int) - 1 = (m : Int) := by omega
   have i2 : (m : Int) < (ls.length : Int) := by omega
   rw [hl]
   generalize t.2.2 = a at *
   have hn := Lib.hid (hno.out _ a s3)
   generalize lastA (ls.take (m + 1)) = la at *
   replace hl := Lib.hid hl
   replace ht := Lib.hid ht
   clear hno hu2 hu s3 hc1 hc2
   have i3 : (((m + 1 : Nat) : Int) == 0) = false := by rw [beq_eq_false_iff_ne]; omega
   generalize hi1 : ((m + 1 : Nat) : Int) = I at *
   replace hi1 := Lib.hid hi1
   have i4 : IntKind.i64.wrap (I - 1) = (m : Int) := by rw [i1, IntKind.wrap_i64]; have := hi1.out; omega
   have i5 : 1 ≤ I ∧ I ≤ 8 := by have := hi1.out; omega
   obtain ⟨i5, i6⟩ := i5
   go_enter Tryz.func72, Tryz.ntmps72
   go_wp2_with fail
   refine hn.out.mono ?_
   rintro e w2 ⟨v2, rfl, f2, hb2⟩
   generalize hC : nonceC a x = C at *
   replace hC := Lib.hid hC
   dsimp only
   go_wp2_with fail
   go_returns
   exact non_ok hC.out rfl f2 hb2
set_option maxRecDepth 100000 in
theorem rnext_any (B B2 : Nat) (u u2 : Value) (ls : List (Bs × Bs × Bs)) (x : Bs) (w : World) (hu : SeesR w B u 3 ls.length (linkS ls)) (hB : B ≤ w.heap.size) (hu2 : SeesB w B2 u2 x) (hB2 : B2 ≤ w.heap.size) :
 Calls Tryz.prog 67 #[u, u2] w (NextP ls x w) := by
 by_cases h8 : 8 ≤ ls.length
 · obtain ⟨A, c, rfl, hc1, hc2⟩ := hu.mk_
   obtain ⟨A2, c2, rfl, -, -⟩ := hu2.mk_
   clear hu hu2
   have i0 : (8 : Int) ≤ (ls.length : Int) := by omega
   go_enter Tryz.func67, Tryz.ntmps67
   go_wp2_with fail
   go_returns
   exact next_bad h8 rfl (Below.refl _ _)
 · have hat := rat_any B B2 u u2 ls x w hu hB hu2 hB2 (by omega) ls.length (Nat.le_refl _)
   rw [List.take_of_length_le (Nat.le_refl _)] at hat
   replace hat := Lib.hid hat
   obtain ⟨A, c, rfl, hc1, hc2⟩ := hu.mk_
   obtain ⟨A2, c2, rfl, -, -⟩ := hu2.mk_
   clear hu hu2
   have i0 : ¬ (8 : Int) ≤ (ls.length : Int) := by omega
   go_enter Tryz.func67, Tryz.ntmps67
   go_wp2_with fail
   refine hat.out.mono ?_
   rintro e w2 ⟨v2, rfl, f2, hb2⟩
   generalize hC : nonceC (lastA ls) x = C at *
   replace hC := Lib.hid hC
   dsimp only
   go_wp2_with fail
   go_returns
   exact next_ok h8 hC.out rfl f2 hb2
end Go.Proofs.YtemopnhhmilhbaaGreat
namespace Go.Proofs.YtemopnhhmilhbaaGreat
open Go Go.RowKit
set_option linter.unusedVariables false
abbrev LinkG := Bs × Bs × Bs
def linkT (ls : List LinkG) (i : Nat) : LinkG := ls.getD i ([], [], [])
def linkN (ls : List LinkG) (i : Nat) : Bs := nonceG (lastA (ls.take i)) (linkT ls i).2.1
/-- The error of one link behind those before it. -/
def linkC (ls : List LinkG) (i : Nat) : Int :=
 if nonceC (lastA (ls.take i)) (linkT ls i).2.1 = 0 then dverC (linkT ls i).1 (linkN ls i) (linkT ls i).2.2 else nonceC (lastA (ls.take i)) (linkT ls i).2.1
def linkV (ls : List LinkG) (i : Nat) : Int × Int := (dverLo (linkT ls i).1 (linkN ls i) (linkT ls i).2.2, dverHi (linkT ls i).1 (linkN ls i) (linkT ls i).2.2)
/-- The first error of the first k links. -/
def firstC (ls : List LinkG) : Nat → Int
 | 0 => 0
 | k + 1 => if firstC ls k = 0 then linkC ls k else firstC ls k
def cverC (ls : List LinkG) : Int := if 8 < ls.length then 8 else firstC ls ls.length
def cverK (ls : List LinkG) (k : Nat) : List (Int × Int) := (List.range k).map (linkV ls)
def cverV (ls : List LinkG) : List (Int × Int) := if cverC ls = 0 then cverK ls ls.length else []
def spanS (vs : List (Int × Int)) : List Spec := vs.flatMap fun v => [.val (.int .i64 v.1), .val (.int .i64 v.2)]
theorem spanS_append (a b : List (Int × Int)) : spanS (a ++ b) = spanS a ++ spanS b := by simp [spanS]
theorem spanS_len (vs : List (Int × Int)) : (spanS vs).length = vs.length * 2 := by
 induction vs with
 | nil => rfl
 | cons a r ih => simp only [spanS, List.flatMap_cons, List.length_append, List.length_cons, List.length_nil] at *; omega
theorem cverK_next (ls : List LinkG) (k : Nat) : cverK ls (k + 1) = cverK ls k ++ [linkV ls k] := by
 rw [cverK, cverK, List.range_succ, List.map_append]; rfl
theorem cverK_len (ls : List LinkG) (k : Nat) : (cverK ls k).length = k := by simp [cverK]
theorem first_ok (ls : List LinkG) (k : Nat) (h : firstC ls k = 0) : firstC ls (k + 1) = linkC ls k := by rw [firstC, if_pos h]
theorem first_bad (ls : List LinkG) (k n : Nat) (h : firstC ls k = 0) (hc : linkC ls k ≠ 0) (hn : k < n) : firstC ls n = linkC ls k := by
 induction n with
 | zero => omega
 | succ n ih =>
   rw [firstC]
   by_cases e : k = n
   · subst e
     rw [if_pos h]
   · rw [ih (by omega), if_neg hc]
def CVerP (ls : List LinkG) (w : World) (e : Ending) (w' : World) : Prop :=
 ∃ v, e = .returned (.tuple #[v, .int .i64 (cverC ls)]) ∧ SeesR w' w'.heap.size v 2 (cverV ls).length (spanS (cverV ls)) ∧ Below w.heap.size w w'
theorem cver_bad {ls : List LinkG} {c : Int} (h : cverC ls = c) (hc : c ≠ 0) {w w' : World} (hb : Below w.heap.size w w') : CVerP ls w (.returned (.tuple #[.slice none 0 0, .int .i64 c])) w' := by
 refine ⟨_, by rw [h], ?_, hb⟩
 rw [cverV, if_neg (by rw [h]; exact hc)]
 exact SeesR.nil _ _ _
theorem cver_ok {ls : List LinkG} (h : cverC ls = 0) {w w' : World} {v : Value} (hs : SeesR w' w'.heap.size v 2 ls.length (spanS (cverK ls ls.length))) (hb : Below w.heap.size w w') : CVerP ls w (.returned (.tuple #[v, .int .i64 0])) w' := by
 refine ⟨v, by rw [h], ?_, hb⟩
 rw [cverV, if_pos h, cverK_len]
 exact hs
theorem span_info : (Tryz.prog.info? 40).map (fun i => (i.zero, i.size, i.bytes)) = some (some (.agg #[.int .i64 0, .int .i64 0]), 2, 16) := by kernel_rfl
theorem val_elts (w : World) (v : Value) (x y : Int) : ∀ (k : Nat) (t : Spec), [Spec.val (.int .i64 x), Spec.val (.int .i64 y)][k]? = some t → ∃ q, [Value.int .i64 x, .int .i64 y][k]? = some q ∧ EltS w v q t := by
 intro k t h
 match k, h with
 | 0, h => cases h; exact ⟨_, rfl, rfl, rfl⟩
 | 1, h => cases h; exact ⟨_, rfl, rfl, rfl⟩
 | k + 2, h => simp at h
end Go.Proofs.YtemopnhhmilhbaaGreat
namespace Go.Proofs.YtemopnhhmilhbaaGreat
open Go Go.RowKit
set_option linter.unusedVariables false
attribute [local go_sem ↓] Go.wp_at_zero Go.wp_at_succ
set_option maxRecDepth 100000 in
theorem followed_any (A : Option Addr) (n c : Nat) (w : World) : Calls Tryz.prog 70 #[.slice A n c] w fun e w' => e = .returned (.func (.func 132) #[] #[.pointer (some ⟨w.heap.size, 0, none⟩)]) ∧ w' = w.alloc (.cells #[.slice A n c] 26) := by
 go_enter Tryz.func70, Tryz.ntmps70
 go_wp2_with fail
 go_ret
 exact ⟨rfl, rfl⟩
end Go.Proofs.YtemopnhhmilhbaaGreat
namespace Go.Proofs.YtemopnhhmilhbaaGreat
open Go Go.RowKit Go.Shelf
set_option linter.unusedVariables false
attribute [local go_sem ↓] Go.wp_at_zero Go.wp_at_succ
attribute [local go_sem] Oper.semAt_some
/-- The value that last returns of the first m links of a row. -/
def lastV (cv : Nat → Value) : Nat → Value
 | 0 => .slice none 0 0
 | m + 1 => cv (m * 3 + 2)
set_option maxRecDepth 100000 in
theorem last_at (cv : Nat → Value) (b o m c : Nat) (A : Option Addr) (w : World) (hm : m ≤ 8) (hc : 0 < m → A = some ⟨b, o, none⟩ ∧ w.cell? ⟨b, o + ((m - 1) * 3 + 2), none⟩ = some (cv ((m - 1) * 3 + 2))) :
 Calls Tryz.prog 112 #[.slice A m c] w fun e w' => e = .returned (lastV cv m) ∧ w' = w := by
 cases m with
 | zero =>
   go_enter Tryz.func112, Tryz.ntmps112
   go_wp2_with fail
   go_returns
   exact ⟨rfl, rfl⟩
 | succ m =>
   obtain ⟨rfl, hx⟩ := hc (by omega)
   rw [Nat.add_sub_cancel, ← Nat.add_assoc] at hx
   have hl : lastV cv (m + 1) = cv (m * 3 + 2) := rfl
   rw [hl]
   generalize cv (m * 3 + 2) = v at *
   have i0 : ¬ ((m + 1 : Nat) : Int) = 0 := by omega
   have i1 : ((m + 1 : Nat) : Int) - 1 = (m : Int) := by omega
   have i2 : (m : Int) < ((m + 1 : Nat) : Int) := by omega
   generalize m + 1 = k at *
   clear hl hc
   go_enter Tryz.func112, Tryz.ntmps112
   go_wp2_with fail
   go_returns
   exact ⟨rfl, rfl⟩
theorem link_size (w : World) : (sizeOf 32).run Tryz.prog w = .ok 3 w := by kernel_rfl
/-- What the rounds keep: what lay below n₀, and one box. -/
def K2 (n₀ Bx : Nat) (X Y : World) : Prop := Below n₀ X Y ∧ (Bx < X.heap.size → Y.heap[Bx]? = X.heap[Bx]?)
theorem K2.trans {n₀ Bx : Nat} {X Y Z : World} (h : K2 n₀ Bx X Y) (k : K2 n₀ Bx Y Z) : K2 n₀ Bx X Z := ⟨h.1.trans k.1, fun hb => (k.2 (Nat.lt_of_lt_of_le hb h.1.size)).trans (h.2 hb)⟩
theorem K2.of_below {n₀ Bx : Nat} {X Y : World} (h : Below X.heap.size X Y) (hn : n₀ ≤ X.heap.size) : K2 n₀ Bx X Y := ⟨h.mono hn, fun hb => h.block _ hb⟩
theorem K2.cell {n₀ Bx : Nat} {X Y : World} {v : Value} (h : K2 n₀ Bx X Y) (hc : X.cell? ⟨Bx, 0, none⟩ = some v) (hb : Bx < X.heap.size) : Y.cell? ⟨Bx, 0, none⟩ = some v := (World.cell?_of_block (a := ⟨Bx, 0, none⟩) (h.2 hb)).trans hc
def finT (N k : Nat) : List (Fin N) := (List.finRange N).take k
theorem finT_next (N k : Nat) (h : k < N) : finT N (k + 1) = finT N k ++ [⟨k, h⟩] := take_one _ k _ (by rw [List.getElem?_eq_getElem (by simpa using h)]; simp)
theorem finT_len (N k : Nat) (h : k ≤ N) : (finT N k).length = k := by simp [finT]; omega
/-- What the iterator yields at link k. -/
def encK (cv : Nat → Value) (k : Nat) : Array Value := #[lastV cv k, .agg #[cv (k * 3), cv (k * 3 + 1), cv (k * 3 + 2)]]
set_option maxRecDepth 100000 in
set_option maxHeartbeats 4000000 in
theorem followed1_in (n : Nat) (hn : 2 ≤ n) (l Bx n₀ b o c N : Nat) (A : Option Addr) (cv : Nat → Value) (hN : N ≤ 8) (hc : N ≤ c) (hA : 0 < N → A = some ⟨b, o, none⟩ ∧ b < n₀) (J Jx : List (Fin N) → World → Prop) (B0 : Nat) (hJ : AbidesFrom B0 J)
 (hY : ∀ pre x W, J pre W → pre.length < N → YieldAt Fence.wide (n - 1) Tryz.prog l (encK cv x.val) W fun e W' =>
  (e = .returned (.bool true) ∧ J (pre ++ [x]) W' ∧ K2 n₀ Bx W W') ∨ (e = .returned (.bool false) ∧ Jx (pre ++ [x]) W'))
 (W : World) (hn0 : n₀ ≤ W.heap.size) (hbx : Bx < W.heap.size) (hcell : ∀ j, j < N * 3 → W.cell? ⟨b, o + j, none⟩ = some (cv j)) (hsl : ∀ j, j < N * 3 → ∃ A n c, cv j = .slice A n c) (hBx : W.cell? ⟨Bx, 0, none⟩ = some (.slice A N c)) (h0 : J [] W) :
 CallsIn Fence.wide n Tryz.prog 132 #[.func (.yield l) #[] #[], .pointer (some ⟨Bx, 0, none⟩)] W fun e W' => (∃ v, e = .returned v) ∧
  ((∃ ys, ys = finT N N ∧ J ys W') ∨ (∃ pre, (∃ k, k ≤ N ∧ pre = finT N k) ∧ Jx pre W')) := by
 refine callsIn_of_wp Tryz.func132 rfl trivial ?_ rfl
 simp only [Tryz.ntmps132, List.size_toArray, List.length_cons, List.length_nil, Nat.reduceAdd, Nat.reduceSub, Array.replicate_succ, Array.replicate_zero, List.push_toArray, List.append_toArray, List.nil_append, List.cons_append]
 gi_wp2
 gi_loopw [7] (fun i wr => ∃ k : Nat, k ≤ N ∧ i = .int .i64 (k : Int) ∧ J (finT N k) wr ∧ Hid (K2 n₀ Bx W wr)) (fun i _ => N - (intOf i).toNat)
 case atStart => exact ⟨0, Nat.zero_le _, rfl, h0, K2.of_below (Below.refl _ _) hn0⟩
 case round =>
  obtain ⟨k, hk, rfl, hJs, hnx⟩ := hrel
  have c0 := hnx.out.cell hBx hbx
  by_cases hlt : k < N
  · obtain ⟨rfl, hb⟩ := hA (by omega)
    have i0 : (k : Int) < (N : Int) := by omega
    have j0 : (0 : Int) ≤ (k : Int) := by omega
    have x0 := (hnx.out.1.cell (p := ⟨b, o + (k * 3), none⟩) hb).trans (hcell (k * 3) (by omega))
    have x1 := (hnx.out.1.cell (p := ⟨b, o + (k * 3 + 1), none⟩) hb).trans (hcell (k * 3 + 1) (by omega))
    have x2 := (hnx.out.1.cell (p := ⟨b, o + (k * 3 + 2), none⟩) hb).trans (hcell (k * 3 + 2) (by omega))
    rw [← Nat.add_assoc] at x1 x2
    have hs := hnx.out.1.size
    have hls := fun A' W' (h1 : W'.cell? ⟨b, o + ((k - 1) * 3 + 2), none⟩ = wr.cell? ⟨b, o + ((k - 1) * 3 + 2), none⟩) (h2 : 0 < k → A' = some ⟨b, o, none⟩) => last_at cv b o k c A' W' (by omega) fun h => ⟨h2 h, h1.trans ((hnx.out.1.cell (p := ⟨b, o + ((k - 1) * 3 + 2), none⟩) hb).trans (hcell _ (by omega)))⟩
    have hen : Hid (∀ a0 a1 a2, a0 = cv (k * 3) → a1 = cv (k * 3 + 1) → a2 = cv (k * 3 + 2) → encK cv k = #[lastV cv k, .agg #[a0, a1, a2]]) := fun a0 a1 a2 e0 e1 e2 => by rw [e0, e1, e2]; rfl
    obtain ⟨P0, q0, r0, y0⟩ := hsl (k * 3) (by omega)
    obtain ⟨P1, q1, r1, y1⟩ := hsl (k * 3 + 1) (by omega)
    obtain ⟨P2, q2, r2, y2⟩ := hsl (k * 3 + 2) (by omega)
    generalize h3 : cv (k * 3) = a0 at *
    generalize h4 : cv (k * 3 + 1) = a1 at *
    generalize h5 : cv (k * 3 + 2) = a2 at *
    replace hen := Lib.hid (hen.out _ _ _ rfl rfl rfl)
    clear hcell hA hsl h3 h4 h5
    subst y0 y1 y2
    have hrc := run_cut_to (P := Tryz.prog) 26 Tryz.underlying26 3 link_size (some ⟨b, o, none⟩) N c .i64 (k : Int) j0 (by omega)
    rw [Int.toNat_natCast, Nat.sub_zero, Nat.sub_zero] at hrc
    gi_upto_region 3 with (fail)
    obtain ⟨z0, z1, z2, -, -, -⟩ := box3_cells (Box.new wr 32 [.slice P0 q0 r0, .slice P1 q1 r1, .slice P2 q2 r2])
    have hal := balloc wr (.cells #[.slice P0 q0 r0, .slice P1 q1 r1, .slice P2 q2 r2] 32)
    change (wr.alloc (.cells #[.slice P0 q0 r0, .slice P1 q1 r1, .slice P2 q2 r2] 32)).cell? _ = _ at z0 z1 z2
    have hn1 : n₀ ≤ wr.heap.size := Nat.le_trans hn0 hs
    have hx1 := hnx.out.trans (K2.of_below hal hn1)
    have hbx1 : Bx < wr.heap.size := Nat.lt_of_lt_of_le hbx hs
    have c1 := (hal.cell (p := ⟨Bx, 0, none⟩) hbx1).trans c0
    have hJ1 : J (finT N k) (wr.alloc (.cells #[.slice P0 q0 r0, .slice P1 q1 r1, .slice P2 q2 r2] 32)).drew := hJ _ _ _ none hJs ⟨rfl, rfl, rfl, hal.size, fun _ hk _ => hal.block _ hk⟩ (fun r e => by cases e)
    have hl1 := hls (cutA (some ⟨b, o, none⟩) c 0 3) (wr.alloc (.cells #[.slice P0 q0 r0, .slice P1 q1 r1, .slice P2 q2 r2] 32)).drew (hal.cell (p := ⟨b, o + ((k - 1) * 3 + 2), none⟩) (show b < wr.heap.size by omega)) (fun _ => by unfold cutA; rw [if_neg (by omega)]; rfl)
    generalize cutA (some ⟨b, o, none⟩) c 0 3 = A9 at *
    generalize wr.alloc (.cells #[.slice P0 q0 r0, .slice P1 q1 r1, .slice P2 q2 r2] 32) = W1 at *
    generalize wr.heap.size = g1 at *
    obtain ⟨fn, tmps, assign, body, hy, hR⟩ := hY _ ⟨k, hlt⟩ W1.drew hJ1 (by rw [finT_len N k (by omega)]; exact hlt)
    dsimp only at hy
    rw [hen.out] at hy
    rw [← finT_next] at hR
    generalize lastV cv k = LV at *
    have hR2 := hR.mono (R' := fun e W' => ∃ β : Bool, e = .returned (.bool β) ∧ ((β = true ∧ J (finT N (k + 1)) W' ∧ K2 n₀ Bx W1.drew W') ∨ (β = false ∧ Jx (finT N (k + 1)) W'))) (by
     rintro e W3 (⟨rfl, h1, h2⟩ | ⟨rfl, h1⟩)
     · exact ⟨true, rfl, .inl ⟨rfl, h1, h2⟩⟩
     · exact ⟨false, rfl, .inr ⟨rfl, h1⟩⟩)
    replace hx1 := Lib.hid hx1
    clear hJ1 hJs hal hls hR c0 x0 x1 x2 hnx
    gi_region_with (first
     | (refine ⟨trivial, fun _ => (by omega : 1 ≤ n), (callsIn_wide.2 hl1).mono ?_⟩; rintro e w' ⟨rfl, rfl⟩)
     | (refine ⟨fun _ => (by omega : 1 ≤ n), hR2.mono ?_⟩; rintro e W3 ⟨β, rfl, hβ⟩))
    all_goals
     rcases hβ with ⟨rfl, hJ3, hk3⟩ | ⟨rfl, hJx3⟩
     · have hx3 : Hid (K2 n₀ Bx W W3) := (hx1.out.trans (K2.of_below (bdrew W1) (Nat.le_trans hn0 hx1.out.1.size))).trans hk3
       clear hx1 hk3
       gi_wp2
       go_roundw
       case rel => exact ⟨k + 1, by omega, by go_num, hJ3, hx3⟩
       case measure => simp [intOf]; omega
     · gi_wp2
       refine bodyPost_ret (results_none rfl _ _ _) rfl ?_
       exact ⟨⟨_, rfl⟩, .inr ⟨_, ⟨k + 1, by omega, rfl⟩, hJx3⟩⟩
  · obtain rfl : k = N := by omega
    gi_wp2
    go_end0
    exact ⟨⟨_, rfl⟩, .inl ⟨_, rfl, hJs⟩⟩
theorem followed_stops (n : Nat) (hn : 2 ≤ n) (Bx n₀ b o c N : Nat) (A : Option Addr) (cv : Nat → Value) (hN : N ≤ 8) (hc : N ≤ c) (hA : 0 < N → A = some ⟨b, o, none⟩ ∧ b < n₀) (w : World) (hbx : Bx < w.heap.size) (hn0 : n₀ ≤ w.heap.size)
 (hcell : ∀ j, j < N * 3 → w.cell? ⟨b, o + j, none⟩ = some (cv j)) (hsl : ∀ j, j < N * 3 → ∃ A n c, cv j = .slice A n c) (hBx : w.cell? ⟨Bx, 0, none⟩ = some (.slice A N c)) :
 SeqStopsK Fence.wide n Tryz.prog 132 #[.pointer (some ⟨Bx, 0, none⟩)] (fun k : Fin N => encK cv k.val) (K2 n₀ Bx) (fun ys => ys = finT N N) (fun pre => ∃ k, k ≤ N ∧ pre = finT N k) N w := fun l J Jx W hW hJ _ hY h0 =>
 followed1_in n hn l Bx n₀ b o c N A cv hN hc hA J Jx W.heap.size hJ hY W (Nat.le_trans hn0 hW.size) (Nat.lt_of_lt_of_le hbx hW.size)
  (fun j hj => (hW.cell (p := ⟨b, o + j, none⟩) (show b < w.heap.size by have := (hA (by omega)).2; omega)).trans (hcell j hj)) hsl ((hW.cell (p := ⟨Bx, 0, none⟩) hbx).trans hBx) h0
/-- A row of links by its cells. -/
theorem row_cells {w : World} {B n c : Nat} {A : Option Addr} {ls : List LinkG} (h : SeesR w B (.slice A n c) 3 n (linkS ls)) (hn : ls.length = n) :
 ∃ (cv : Nat → Value) (b o : Nat), n ≤ c ∧ (0 < n → A = some ⟨b, o, none⟩ ∧ b < B) ∧ (∀ j, j < n * 3 → w.cell? ⟨b, o + j, none⟩ = some (cv j)) ∧ (∀ j, j < n * 3 → ∃ A n c, cv j = .slice A n c) ∧
  ∀ k, k < n → SeesB w B (cv (k * 3)) (linkT ls k).1 ∧ SeesB w B (cv (k * 3 + 1)) (linkT ls k).2.1 ∧ SeesB w B (cv (k * 3 + 2)) (linkT ls k).2.2 := by
 obtain ⟨h0, vs, hs, hv⟩ := h
 obtain ⟨A', c', e, hc1, -⟩ := hs.mk_
 injection e with e1 e2 e3
 subst e1 e3
 have hvl : vs.length = n * 3 := hs.len
 have hg : ∀ j, j < n * 3 → vs[j]? = some (vs.getD j undef) := fun j hj => by rw [List.getD_eq_getElem?_getD, List.getElem?_eq_getElem (by omega)]; rfl
 have hk : ∀ k, k < n → SeesB w B (vs.getD (k * 3) undef) (linkT ls k).1 ∧ SeesB w B (vs.getD (k * 3 + 1) undef) (linkT ls k).2.1 ∧ SeesB w B (vs.getD (k * 3 + 2) undef) (linkT ls k).2.2 := fun k hk => by
  have hdk : ls[k]? = some (linkT ls k) := by rw [linkT, List.getD_eq_getElem?_getD, List.getElem?_eq_getElem (by omega)]; rfl
  obtain ⟨g1, g2, g3⟩ := linkS_get ls k _ hdk
  have one : ∀ (j : Nat) (l : Bs), (linkS ls)[j]? = some (.byt l) → j < n * 3 → SeesB w B (vs.getD j undef) l := fun j l hj hjn => by
   obtain ⟨u, e1, e2⟩ := hv j _ hj
   rw [hg j hjn] at e1
   cases e1
   exact e2
  exact ⟨one _ _ g1 (by omega), one _ _ g2 (by omega), one _ _ g3 (by omega)⟩
 have hsl : ∀ j, j < n * 3 → ∃ A n c, vs.getD j undef = .slice A n c := fun j hj => by
  have hq := hk (j / 3) (by omega)
  rcases (show j % 3 = 0 ∨ j % 3 = 1 ∨ j % 3 = 2 by omega) with h | h | h
  · obtain ⟨A, c, e, -, -⟩ := hq.1.mk_
    rw [show j / 3 * 3 = j by omega] at e
    exact ⟨_, _, _, e⟩
  · obtain ⟨A, c, e, -, -⟩ := hq.2.1.mk_
    rw [show j / 3 * 3 + 1 = j by omega] at e
    exact ⟨_, _, _, e⟩
  · obtain ⟨A, c, e, -, -⟩ := hq.2.2.mk_
    rw [show j / 3 * 3 + 2 = j by omega] at e
    exact ⟨_, _, _, e⟩
 rcases Nat.eq_zero_or_pos n with hz | hz
 · subst hz
   exact ⟨fun j => vs.getD j undef, 0, 0, hc1, fun h => absurd h (by omega), fun j hj => absurd hj (by omega), hsl, hk⟩
 · obtain ⟨b, o, e, hb, hcell⟩ := hs.at_ hz
   exact ⟨fun j => vs.getD j undef, b, o, hc1, fun _ => ⟨e, hb⟩, fun j hj => hcell j _ (hg j hj), hsl, hk⟩
theorem last_sees {w : World} {B : Nat} {cv : Nat → Value} {ls : List LinkG} {n : Nat} (hn : ls.length = n) (h : ∀ k, k < n → SeesB w B (cv (k * 3 + 2)) (linkT ls k).2.2) (k : Nat) (hk : k < n) : SeesB w B (lastV cv k) (lastA (ls.take k)) := by
 cases k with
 | zero => exact SeesB.nil _ _
 | succ m =>
   have hdk : ls[m]? = some (linkT ls m) := by rw [linkT, List.getD_eq_getElem?_getD, List.getElem?_eq_getElem (by omega)]; rfl
   have hl := lastA_get (ls.take (m + 1)) m (linkT ls m) (by rw [List.length_take]; omega) (by rw [List.getElem?_take, if_pos (by omega)]; exact hdk)
   rw [hl]
   exact h m (by omega)
/-- The spans as cells. -/
def spanC2 (vs : List (Int × Int)) : List Value := vs.flatMap fun v => [.int .i64 v.1, .int .i64 v.2]
theorem spanC2_row {w : World} {base n : Nat} {v : Value} {vs : List (Int × Int)} (h : w.ownsRow base 40 2 v n (spanC2 vs)) (hn : vs.length = n) : SeesR w w.heap.size v 2 n (spanS vs) := by
 refine ⟨by rw [spanS_len, hn], _, Sees.of_own h, fun k s hk => ?_⟩
 have e : (spanC2 vs).map Spec.val = spanS vs := by simp [spanC2, spanS, List.map_flatMap]
 rw [← e, List.getElem?_map] at hk
 cases hc : (spanC2 vs)[k]? with
 | none => rw [hc] at hk; cases hk
 | some u =>
   rw [hc] at hk
   cases hk
   refine ⟨u, rfl, rfl, ?_⟩
   have hm := List.mem_of_getElem? hc
   simp only [spanC2, List.mem_flatMap] at hm
   obtain ⟨p, -, hp⟩ := hm
   simp at hp
   rcases hp with rfl | rfl <;> rfl
theorem keeps_below {B : Nat} {W W' : World} (h : Below W.heap.size W W') : KeepsFrom B W W' :=
 ⟨h.size, fun k o hB hk _ => (h.block k (Array.getElem?_eq_some_iff.1 hk).1).trans hk⟩
theorem finT_map {β : Type} (N : Nat) (f : Nat → β) : (finT N N).map (fun i => f i.val) = (List.range N).map f := by
 apply List.ext_getElem?
 intro j
 by_cases h : j < N
 · rw [List.getElem?_map, List.getElem?_map, List.getElem?_range h, finT, List.getElem?_take, if_pos h, List.getElem?_eq_getElem (by simpa using h)]
   simp
 · rw [List.getElem?_eq_none (by simp [finT]; omega), List.getElem?_eq_none (by simp; omega)]
theorem finT_mem (N k j : Nat) (hk : k ≤ N) (h : j < k) : (⟨j, by omega⟩ : Fin N) ∈ finT N k := by
 refine List.mem_of_getElem? (i := j) ?_
 rw [finT, List.getElem?_take, if_pos h, List.getElem?_eq_getElem (by simp; omega)]
 simp
theorem first_all (ls : List LinkG) (k : Nat) (h : ∀ j, j < k → linkC ls j = 0) : firstC ls k = 0 := by
 induction k with
 | zero => rfl
 | succ k ih => rw [first_ok ls k (ih fun j hj => h j (by omega)), h k (by omega)]
theorem spanC2_sees {w : World} {B n : Nat} {v : Value} {vs : List (Int × Int)} (h : SeesR w B v 2 n (spanS vs)) : Sees w B v 2 n (spanC2 vs) := by
 obtain ⟨h0, us, hs, hu⟩ := h
 have e : us = spanC2 vs := by
  have em : (spanC2 vs).map Spec.val = spanS vs := by simp [spanC2, spanS, List.map_flatMap]
  apply List.ext_getElem?
  intro j
  by_cases hj : j < (spanS vs).length
  · obtain ⟨u, e1, e2⟩ := hu j _ (List.getElem?_eq_getElem hj)
    have h2 : ((spanC2 vs).map Spec.val)[j]? = some (spanS vs)[j] := by rw [em]; exact List.getElem?_eq_getElem hj
    rw [List.getElem?_map] at h2
    cases hc : (spanC2 vs)[j]? with
    | none => rw [hc] at h2; cases h2
    | some y =>
      rw [hc] at h2
      have h3 : Spec.val y = (spanS vs)[j] := Option.some.inj h2
      rw [← h3] at e2
      rw [e1, e2.1]
  · have hl : (spanC2 vs).length = (spanS vs).length := by rw [← em, List.length_map]
    rw [List.getElem?_eq_none (by rw [hs.len, ← h0]; omega), List.getElem?_eq_none (by omega)]
 rw [← e]
 exact hs
theorem spanC2_get (vs : List (Int × Int)) : ∀ k, k < vs.length → (spanC2 vs)[k * 2]? = some (.int .i64 (vs.getD k (0, 0)).1) ∧ (spanC2 vs)[k * 2 + 1]? = some (.int .i64 (vs.getD k (0, 0)).2) := by
 induction vs with
 | nil => intro k h; simp at h
 | cons a r ih =>
   intro k h
   cases k with
   | zero => exact ⟨rfl, rfl⟩
   | succ k =>
     obtain ⟨h1, h2⟩ := ih k (by simpa using h)
     have e : spanC2 (a :: r) = [.int .i64 a.1, .int .i64 a.2] ++ spanC2 r := rfl
     rw [e, show (k + 1) * 2 = k * 2 + 2 by omega, show k * 2 + 2 + 1 = k * 2 + 1 + 2 by omega]
     exact ⟨h1, h2⟩
end Go.Proofs.YtemopnhhmilhbaaGreat
namespace Go.Proofs.YtemopnhhmilhbaaGreat
open Go Go.RowKit
set_option linter.unusedVariables false
end Go.Proofs.YtemopnhhmilhbaaGreat
namespace Go.Proofs.YtemopnhhmilhbaaGreat
open Go Go.RowKit
set_option linter.unusedVariables false
/-- The value is a row of the call's own; its elements are these records, and new. -/
def OwnRF (w : World) (base : Nat) (T : TypeId) (v : Value) (size n : Nat) (ss : List Spec) : Prop :=
 ss.length = n * size ∧ ∃ vs : List Value, w.ownsRow base T size v n vs ∧ ∀ (k : Nat) (s : Spec), ss[k]? = some s → ∃ u, vs[k]? = some u ∧ EltS w v u s ∧ From base u
theorem OwnRF.own {w : World} {base size n : Nat} {T : TypeId} {v : Value} {ss : List Spec} (h : OwnRF w base T v size n ss) : OwnR w base T v size n ss := by
 obtain ⟨h0, vs, h1, h2⟩ := h
 exact ⟨h0, vs, h1, fun k s hk => by obtain ⟨u, e1, e2, -⟩ := h2 k s hk; exact ⟨u, e1, e2⟩⟩
theorem OwnRF.nil (w : World) (base : Nat) (T : TypeId) (size : Nat) : OwnRF w base T (.slice none 0 0) size 0 [] := ⟨by simp, [], World.ownsRow_nil w base T size, fun k s hk => by simp at hk⟩
theorem OwnRF.below {w w' : World} {base size n : Nat} {T : TypeId} {v : Value} {ss : List Spec} (h : OwnRF w base T v size n ss) (hb : Below w.heap.size w w') : OwnRF w' base T v size n ss := by
 obtain ⟨h0, vs, h1, h2⟩ := h
 exact ⟨h0, vs, own_below h1 hb, fun k s hk => by obtain ⟨u, e1, e2, e3⟩ := h2 k s hk; exact ⟨u, e1, e2.below hb, e3⟩⟩
/-- append of records, the source whatever row is seen that does not lie where the target lies. -/
theorem wp_appRF {o : Oper} {a : Act} {w : World} {K : Act → World → Prop} {Q : Exit → Act → World → Prop} (s x : Operand) (T E : TypeId) (hT : Tryz.prog.underlying T = some (.slice E))
 (ho : o.op = .call { callee := .builtin .append, args := #[s, x], argTypes := #[T, T] }) (i : TypeInfo) (z : Value) (size bytes : Nat) (hi : Tryz.prog.info? E = some i) (hz : i.zero = some z)
 (hsz : i.size = size) (hby : i.bytes = bytes) (hzs : z.cells.size = size) (h0 : 0 < size) (hby2 : bytes ≤ 1024)
 (base : Nat) (v : Value) (n : Nat) (ss : List Spec) (hs : a.eval s = v) (hown : OwnRF w base E v size n ss) (B : Nat) (u : Value) (m : Nat) (vs : List Value) (ts : List Spec) (hx : a.eval x = u) (hr : Sees w B u size m vs)
 (htl : ts.length = m * size) (hel : ∀ (k : Nat) (t : Spec), ts[k]? = some t → ∃ y, vs[k]? = some y ∧ EltS w v y t ∧ From base y)
 (hlen : n + m ≤ 1048576) (hbase : base ≤ w.heap.size)
 (h : ∀ v' w', OwnRF w' base E v' size (n + m) (ss ++ ts) → Below base w w' → w.grownBy w' v.ownBlock → K (a.put o.dst v') w') : o.wp Tryz.prog a w K Q := by
 have hown' := OwnRF.own hown
 obtain ⟨hl0, xs, h1, h2⟩ := hown
 have h1c : ∀ y ∈ vs, y.oneCell' = true := by
  intro y hy
  obtain ⟨k, hk⟩ := List.mem_iff_getElem?.1 hy
  have hkl : k < ts.length := by
   have := (List.getElem?_eq_some_iff.1 hk).1
   rw [hr.1] at this; omega
  obtain ⟨y', e1, e2⟩ := hel k _ (List.getElem?_eq_getElem hkl)
  rw [hk] at e1
  cases e1
  exact e2.1.fit.one
 refine wp_append_sees s x T ho base E i z size bytes hT hi hz hsz hby hzs h0 v n xs hs h1 B u m vs hx hr h1c (by unfold maxLen; omega) (Nat.le_trans (Nat.mul_le_mul hlen hby2) (by omega)) hbase ?_
 intro v' w' g1 g2 g3
 refine h v' w' ⟨by rw [List.length_append, hl0, htl, Nat.add_mul], xs ++ vs, g1, fun k t hk => ?_⟩ (below_ownR hown' g2 hbase) g2
 have hl1 : xs.length = ss.length := by rw [h1.1, hl0]
 have hst : ∀ {y : Value} {t : Spec}, EltS w v y t → EltS w' v' y t := fun {y t} hy => by
  cases t with
  | val x => exact hy
  | byt l => exact ⟨hy.grown g2, fun hm k hk => by
   rcases g3 with e | e
   · rw [e]; exact hy.2 hm k hk
   · rw [e]; intro e2; cases e2; exact absurd (hy.1.blk hm _ hk) (by omega)⟩
 by_cases hkl : k < ss.length
 · rw [List.getElem?_append_left hkl] at hk
   obtain ⟨y, e1, e2⟩ := h2 k t hk
   exact ⟨y, by rw [List.getElem?_append_left (by omega)]; exact e1, hst e2.1, e2.2⟩
 · rw [List.getElem?_append_right (by omega)] at hk
   obtain ⟨y, e1, e2⟩ := hel (k - ss.length) t hk
   exact ⟨y, by rw [List.getElem?_append_right (by omega), hl1]; exact e1, hst e2.1, e2.2⟩
/-- The same in a region that draws its order. -/
theorem step_appRF {ops : Array Oper} {o : Oper} {a : Act} {w : World} {K : Act → World → Prop} {Q : Exit → Act → World → Prop} {X : Prop} (hgd : o.guard = none) (s x : Operand) (T E : TypeId) (hT : Tryz.prog.underlying T = some (.slice E))
 (ho : o.op = .call { callee := .builtin .append, args := #[s, x], argTypes := #[T, T] }) (i : TypeInfo) (z : Value) (size bytes : Nat) (hi : Tryz.prog.info? E = some i) (hz : i.zero = some z)
 (hsz : i.size = size) (hby : i.bytes = bytes) (hzs : z.cells.size = size) (h0 : 0 < size) (hby2 : bytes ≤ 1024)
 (base : Nat) (v : Value) (n : Nat) (ss : List Spec) (hs : a.eval s = v) (hown : OwnRF w base E v size n ss) (B : Nat) (u : Value) (m : Nat) (vs : List Value) (ts : List Spec) (hx : a.eval x = u) (hr : Sees w B u size m vs)
 (htl : ts.length = m * size) (hel : ∀ (k : Nat) (t : Spec), ts[k]? = some t → ∃ y, vs[k]? = some y ∧ EltS w v y t ∧ From base y)
 (hlen : n + m ≤ 1048576) (hbase : base ≤ w.heap.size)
 (h : ∀ v' w', OwnRF w' base E v' size (n + m) (ss ++ ts) → Below base w w' → w.grownBy w' v.ownBlock → K (a.put o.dst v') w') : if Region.wanted o (yielded ops a.tmps) = true then Oper.wp Tryz.prog o a w K Q else X := by
 have hw : Region.wanted o (yielded ops a.tmps) = true := by simp [Region.wanted, hgd]
 rw [if_pos hw]
 exact wp_appRF s x T E hT ho i z size bytes hi hz hsz hby hzs h0 hby2 base v n ss hs hown B u m vs ts hx hr htl hel hlen hbase h
end Go.Proofs.YtemopnhhmilhbaaGreat
namespace Go.Proofs.YtemopnhhmilhbaaGreat
open Go Go.RowKit
set_option linter.unusedVariables false
set_option linter.unusedSimpArgs false
attribute [local go_sem ↓] Go.wp_at_zero Go.wp_at_succ
def CopyP (ls : List LinkG) (w : World) (e : Ending) (w' : World) : Prop :=
 ∃ v, e = .returned v ∧ OwnRF w' w.heap.size 32 v 3 ls.length (linkS ls) ∧ Below w.heap.size w w'
theorem link_infoC : (Tryz.prog.info? 32).map (fun i => (i.zero, i.size, i.bytes)) = some (some (.agg #[.slice none 0 0, .slice none 0 0, .slice none 0 0]), 3, 72) := by kernel_rfl
theorem link_eltsF {w : World} {base : Nat} {v a b c : Value} {t : LinkG} (h1 : EltS w v a (.byt t.1)) (h2 : EltS w v b (.byt t.2.1)) (h3 : EltS w v c (.byt t.2.2)) (f1 : From base a) (f2 : From base b) (f3 : From base c) : ∀ (k : Nat) (s : Spec), [Spec.byt t.1, .byt t.2.1, .byt t.2.2][k]? = some s → ∃ y, [a, b, c][k]? = some y ∧ EltS w v y s ∧ From base y := by
 intro k s h
 match k, h with
 | 0, h => cases h; exact ⟨_, rfl, h1, f1⟩
 | 1, h => cases h; exact ⟨_, rfl, h2, f2⟩
 | 2, h => cases h; exact ⟨_, rfl, h3, f3⟩
 | k + 3, h => simp at h
theorem link_elts {w : World} {v a b c : Value} {t : LinkG} (h1 : EltS w v a (.byt t.1)) (h2 : EltS w v b (.byt t.2.1)) (h3 : EltS w v c (.byt t.2.2)) : ∀ (k : Nat) (s : Spec), [Spec.byt t.1, .byt t.2.1, .byt t.2.2][k]? = some s → ∃ y, [a, b, c][k]? = some y ∧ EltS w v y s := by
 intro k s h
 match k, h with
 | 0, h => cases h; exact ⟨_, rfl, h1⟩
 | 1, h => cases h; exact ⟨_, rfl, h2⟩
 | 2, h => cases h; exact ⟨_, rfl, h3⟩
 | k + 3, h => simp at h
theorem linkS_take (ls : List LinkG) (k : Nat) (t : LinkG) (h : ls[k]? = some t) : linkS (ls.take (k + 1)) = linkS (ls.take k) ++ [.byt t.1, .byt t.2.1, .byt t.2.2] := by
 rw [List.take_add_one, linkS_append, h]
 rfl
set_option maxRecDepth 100000 in
set_option maxHeartbeats 8000000 in
theorem ccopy_any (B : Nat) (u : Value) (ls : List LinkG) (w : World) (hu : SeesR w B u 3 ls.length (linkS ls)) (hB : B ≤ w.heap.size) (hn : ls.length ≤ 1000) (hl : ∀ t ∈ ls, t.1.length ≤ 1048576 ∧ t.2.1.length ≤ 1048576 ∧ t.2.2.length ≤ 1048576) :
 Calls Tryz.prog 75 #[u] w (CopyP ls w) := by
 obtain ⟨A, c, rfl, -, -⟩ := hu.mk_
 obtain ⟨ti, hti, htz, hts, htb⟩ := info_parts link_infoC
 replace hti := Lib.hid hti
 replace htz := Lib.hid htz
 replace hts := Lib.hid hts
 replace htb := Lib.hid htb
 replace hu := Lib.hid (hu.more hB)
 replace hl := Lib.hid hl
 go_enter Tryz.func75, Tryz.ntmps75
 go_wp2_with fail
 go_loopw [3, 8] (fun r t wr => ∃ k : Nat, k ≤ ls.length ∧ t = .int .i64 k ∧ Hid (OwnRF wr w.heap.size 32 r 3 k (linkS (ls.take k))) ∧ Hid (Below w.heap.size w wr)) (fun _ t _ => ls.length - (intOf t).toNat)
 case atStart => exact ⟨0, by omega, rfl, OwnRF.nil _ _ _ _, Below.refl _ _⟩
 case round =>
  obtain ⟨k, hk, rfl, ho, hb⟩ := hrel
  obtain ⟨Ar, cr, rfl, -, -⟩ := ho.out.own.sees.mk_
  by_cases hlt : k < ls.length
  · have i1 : (k : Int) < (ls.length : Int) := by omega
    have i2 : (0 : Int) ≤ (k : Int) := by omega
    have hdk : ls[k]? = some (linkT ls k) := by rw [linkT, List.getD_eq_getElem?_getD, List.getElem?_eq_getElem hlt]; rfl
    have hst : Hid _ := Lib.hid (linkS_take ls k _ hdk)
    obtain ⟨b, o, A1, c1, A2, c2, A3, c3, eA, hbB, z1, s1, z2, s2, z3, s3⟩ := link_at ((hu.out.below hb.out).more hb.out.size) k (linkT ls k) hdk
    subst eA
    obtain ⟨l1, l2, l3⟩ := hl.out _ (List.mem_of_getElem? hdk)
    clear hdk
    generalize linkT ls k = t at *
    have hb5 := balloc wr (.cells #[.slice A1 t.1.length c1, .slice A2 t.2.1.length c2, .slice A3 t.2.2.length c3] 32)
    have x5 := Box.new wr 32 [.slice A1 t.1.length c1, .slice A2 t.2.1.length c2, .slice A3 t.2.2.length c3]
    change Box (wr.alloc (.cells #[.slice A1 t.1.length c1, .slice A2 t.2.1.length c2, .slice A3 t.2.2.length c3] 32)) _ _ _ at x5
    replace s1 := Lib.hid (seesB_of s1 (Nat.le_refl _) hb5)
    replace s2 := Lib.hid (seesB_of s2 (Nat.le_refl _) hb5)
    replace s3 := Lib.hid (seesB_of s3 (Nat.le_refl _) hb5)
    have hlo : Hid (∀ j, (Value.slice Ar k cr).ownBlock = some j → j < wr.heap.size) := fun j hj => (ho.out.own.lt j hj).2
    have hz5 := Lib.hid hb5.size
    replace ho := Lib.hid (ho.out.below hb5)
    replace hb := Lib.hid (bgo hb.out hb5)
    replace x5 := Lib.hid x5
    clear hb5 hbB
    replace l1 := Lib.hid l1
    replace l2 := Lib.hid l2
    replace l3 := Lib.hid l3
    go_upto_region 5 with (fail)
    clear z1 z2 z3
    generalize wr.alloc (.cells #[.slice A1 t.1.length c1, .slice A2 t.2.1.length c2, .slice A3 t.2.2.length c3] 32) = W0 at *
    generalize wr.heap.size = g5 at *
    have K : Hid (∀ W, Below W0.heap.size W0 W → W.cell? ⟨g5, 0, none⟩ = some (.slice A1 t.1.length c1) ∧ W.cell? ⟨g5, 1, none⟩ = some (.slice A2 t.2.1.length c2) ∧ W.cell? ⟨g5, 2, none⟩ = some (.slice A3 t.2.2.length c3)) := fun W hW => ⟨(x5.out.below hW).cell 0, (x5.out.below hW).cell 1, (x5.out.below hW).cell 2⟩
    obtain ⟨k1, k2, k3⟩ := K.out W0 (Below.refl _ _)
    have hc1 : Hid (∀ W, Below W0.heap.size W0 W → Calls Tryz.prog 78 #[.slice A1 t.1.length c1] W (Gives t.1 W)) := fun W hW => bclone_any W.heap.size _ t.1 W (seesB_of s1.out (Nat.le_refl _) hW) (Nat.le_refl _) (by have := l1.out; omega)
    have hc2 : Hid (∀ W, Below W0.heap.size W0 W → Calls Tryz.prog 78 #[.slice A2 t.2.1.length c2] W (Gives t.2.1 W)) := fun W hW => bclone_any W.heap.size _ t.2.1 W (seesB_of s2.out (Nat.le_refl _) hW) (Nat.le_refl _) (by have := l2.out; omega)
    have hc3 : Hid (∀ W, Below W0.heap.size W0 W → Calls Tryz.prog 78 #[.slice A3 t.2.2.length c3] W (Gives t.2.2 W)) := fun W hW => bclone_any W.heap.size _ t.2.2 W (seesB_of s3.out (Nat.le_refl _) hW) (Nat.le_refl _) (by have := l3.out; omega)
    clear s1 s2 s3 l1 l2 l3
    have hcr : Hid (k + 1 ≤ 1048576) := by show _ ≤ _; omega
    have hlt5 : ∀ j, (Value.slice Ar k cr).ownBlock = some j → j < W0.heap.size := fun j hj => by have := hlo.out j hj; have := hz5.out; omega
    have hne5 : Hid (∀ j, (Value.slice Ar k cr).ownBlock = some j → j ≠ g5) := fun j hj => by have := hlo.out j hj; omega
    go_region_held3 (fun W' : World => W'.cell? ⟨g5, 0, none⟩ = some (.slice A1 t.1.length c1) ∧ W'.cell? ⟨g5, 1, none⟩ = some (.slice A2 t.2.1.length c2) ∧ W'.cell? ⟨g5, 2, none⟩ = some (.slice A3 t.2.2.length c3))
     (first | exact ⟨kk1, kk2, kk3⟩ | (with_reducible exact K.out _ (by (repeat (first | exact Below.refl _ _ | (refine bgo ?_ (balloc _ _)) | (refine bgo ?_ (bdrew _)) | (refine bgo ?_ (by assumption)))))) | (go_keep; done))
     (first
      | (refine step_appRF (by rfl) _ _ 26 32 Tryz.underlying26 (by rfl) ti _ 3 72 hti.out htz.out hts.out htb.out (by rfl) (by omega) (by omega) w.heap.size _ k _ (by rfl) ho2.out _ _ 1 _ [.byt t.1, .byt t.2.1, .byt t.2.2] (by rfl) hrec.out (by rfl) hel.out hcr.out hb3.out.size ?_; intro v' w' hW2 hb4 hg4
         obtain ⟨kk1, kk2, kk3, -, -, -⟩ := box3_cells (show Box w' g5 32 [.slice A1 t.1.length c1, .slice A2 t.2.1.length c2, .slice A3 t.2.2.length c3] from (hg4.block g5 x5a.lt (fun e => hne5.out _ e.symm rfl)).trans x5a))
      | (go_at_call 78; have _q := m8; (with_reducible refine (hc3.out _ (by (repeat (first | exact Below.refl _ _ | (refine bgo ?_ (balloc _ _)) | (refine bgo ?_ (bdrew _)) | (refine bgo ?_ (by assumption)))))).mono ?_); rintro e w9 ⟨v9, rfl, o9, hb9⟩
         obtain ⟨B3, d3, rfl, -, -⟩ := o9.sees.mk_
         have hb79 := bgo hb8 hb9
         have hb09 := bgo hb07 hb79
         have hal := balloc w9 (.cells #[.slice B1 t.1.length d1, .slice B2 t.2.1.length d2, .slice B3 t.2.2.length d3] 32)
         have hrec : Hid (Sees (w9.alloc (.cells #[.slice B1 t.1.length d1, .slice B2 t.2.1.length d2, .slice B3 t.2.2.length d3] 32)) (w9.heap.size + 1) (.slice (some ⟨w9.heap.size, 0, none⟩) 1 1) 3 1 [.slice B1 t.1.length d1, .slice B2 t.2.1.length d2, .slice B3 t.2.2.length d3]) := rec_lit w9 32 [.slice B1 t.1.length d1, .slice B2 t.2.1.length d2, .slice B3 t.2.2.length d3]
         have ho2 := Lib.hid (ho.out.below (bgo hb09 hal))
         have x5a := x5.out.below (bgo hb09 hal)
         have hel := Lib.hid (link_eltsF (base := w.heap.size) (t := t) (EltS.of_from (v := .slice Ar k cr) (seesB_of m7 (Nat.le_refl _) (bgo hb79 hal)) (o7.from.mono hb07s) hlt5) (EltS.of_from (seesB_of m8 (Nat.le_refl _) (bgo hb9 hal)) (o8.from.mono (bgo hb07 (Below.refl _ _)).size) hlt5) (EltS.of_from (seesB_of o9.sees (Nat.le_refl _) hal) (o9.from.mono (bgo hb07 hb8).size) hlt5) (o7.from.mono (Nat.le_trans hb.out.size hb07s)) (o8.from.mono (Nat.le_trans hb.out.size (bgo hb07 (Below.refl _ _)).size)) (o9.from.mono (Nat.le_trans hb.out.size (bgo hb07 hb8).size)))
         have hb3 := Lib.hid (bgo (bgo hb.out hb09) hal)
         clear hal)
      | (go_at_call 78; have _q := m7; (with_reducible refine (hc2.out _ (by (repeat (first | exact Below.refl _ _ | (refine bgo ?_ (balloc _ _)) | (refine bgo ?_ (bdrew _)) | (refine bgo ?_ (by assumption)))))).mono ?_); rintro e w8 ⟨v8, rfl, o8, hb8⟩
         obtain ⟨B2, d2, rfl, -, -⟩ := o8.sees.mk_
         have m8 := o8.sees)
      | (go_at_call 78; (with_reducible refine (hc1.out W0.drew (bdrew W0)).mono ?_); rintro e w7 ⟨v7, rfl, o7, hb7⟩
         obtain ⟨B1, d1, rfl, -, -⟩ := o7.sees.mk_
         have hb07s := (bdrew W0).size
         have hb07 := bgo (bdrew W0) hb7
         have m7 := o7.sees)
      | (go_at_call 78; (with_reducible refine (hc1.out W0 (Below.refl _ _)).mono ?_); rintro e w7 ⟨v7, rfl, o7, hb7⟩
         obtain ⟨B1, d1, rfl, -, -⟩ := o7.sees.mk_
         have hb07s := Nat.le_refl W0.heap.size
         have hb07 := hb7
         have m7 := o7.sees))
    all_goals
     replace hW2 : Hid (OwnRF w' w.heap.size 32 v' 3 (k + 1) (linkS (ls.take (k + 1)))) := by show OwnRF _ _ _ _ _ _ _; rw [hst.out]; exact hW2
     have hb4 := Lib.hid (hb3.out.trans hb4)
     go_wp2_with fail
     go_roundw
     case rel => first | exact ⟨k + 1, by omega, by go_num, hW2, hb4⟩ | ((repeat apply Exists.intro); exact ⟨⟨k + 1, by omega, by go_num, hW2, hb4⟩, rfl⟩)
     case measure => simp [intOf]; omega
  · obtain rfl : k = ls.length := by omega
    have i1 : ¬ (ls.length : Int) < (ls.length : Int) := by omega
    have ho' := ho.out
    rw [List.take_of_length_le (Nat.le_refl _)] at ho'
    replace ho' := Lib.hid ho'
    go_wp2_with fail
    go_returns
    exact ⟨_, rfl, ho'.out, hb.out⟩
end Go.Proofs.YtemopnhhmilhbaaGreat
namespace Go.Proofs.YtemopnhhmilhbaaGreat
open Go Go.RowKit
set_option linter.unusedVariables false
set_option linter.unusedSimpArgs false
attribute [local go_sem ↓] Go.wp_at_zero Go.wp_at_succ
/-- A link of new bytes. -/
def LinkP (t : LinkG) (w : World) (e : Ending) (w' : World) : Prop :=
 ∃ v1 v2 v3, e = .returned (.agg #[v1, v2, v3]) ∧ SeesB w' w'.heap.size v1 t.1 ∧ SeesB w' w'.heap.size v2 t.2.1 ∧ SeesB w' w'.heap.size v3 t.2.2 ∧ From w.heap.size v1 ∧ From w.heap.size v2 ∧ From w.heap.size v3 ∧ Below w.heap.size w w'
theorem boxn {w : World} {g : Nat} {T : TypeId} {xs : List Value} (h : g = w.heap.size) : Box (w.alloc (.cells xs.toArray T)) g T xs := by subst h; exact Box.new w T xs
theorem noB_nils : NoByte [Value.slice none 0 0, .slice none 0 0, .slice none 0 0] := by
 intro x hx n e
 simp only [List.mem_cons, List.not_mem_nil, or_false] at hx
 rcases hx with rfl | rfl | rfl <;> cases e
theorem link_sees {W : World} {g : Nat} {T : TypeId} {u : Value} {l : Bs} (h : Box W g T [.slice none 0 0, .slice none 0 0, .slice none 0 0]) (x y z : Value) (hs : SeesB W W.heap.size u l) : SeesB (((W.setCell ⟨g, 0, none⟩ x).setCell ⟨g, 1, none⟩ y).setCell ⟨g, 2, none⟩ z) (((W.setCell ⟨g, 0, none⟩ x).setCell ⟨g, 1, none⟩ y).setCell ⟨g, 2, none⟩ z).heap.size u l := by
 have hz : (((W.setCell ⟨g, 0, none⟩ x).setCell ⟨g, 1, none⟩ y).setCell ⟨g, 2, none⟩ z).heap.size = W.heap.size := by simp [World.setCell]
 rw [hz]
 exact hs.over (Nat.le_refl _) h noB_nils (ggo (ggo (setCell_grown W g 0 x) (setCell_grown _ g 1 y)) (setCell_grown _ g 2 z))
theorem box_lset3 {W : World} {g : Nat} {T : TypeId} {a b c : Value} (h : Box W g T [a, b, c]) (x y z : Value) : Box (((W.setCell ⟨g, 0, none⟩ x).setCell ⟨g, 1, none⟩ y).setCell ⟨g, 2, none⟩ z) g T [x, y, z] := by
 have k := ((h.set 0 x).set 1 y).set 2 z
 simpa only [List.set_cons_zero, List.set_cons_succ] using k
theorem link_done {t : LinkG} {w W : World} {g : Nat} {T : TypeId} {v1 v2 v3 : Value} (x : Box W g T [.slice none 0 0, .slice none 0 0, .slice none 0 0]) (hg : w.heap.size ≤ g) (s1 : SeesB W W.heap.size v1 t.1) (s2 : SeesB W W.heap.size v2 t.2.1) (s3 : SeesB W W.heap.size v3 t.2.2) (f1 : From w.heap.size v1) (f2 : From w.heap.size v2) (f3 : From w.heap.size v3) (hb : Below w.heap.size w W) :
 LinkP t w (.returned (.agg #[v1, v2, v3])) (((W.setCell ⟨g, 0, none⟩ v1).setCell ⟨g, 1, none⟩ v2).setCell ⟨g, 2, none⟩ v3) :=
 ⟨v1, v2, v3, rfl, link_sees x _ _ _ s1, link_sees x _ _ _ s2, link_sees x _ _ _ s3, f1, f2, f3, ((hb.setCell (p := ⟨g, 0, none⟩) hg _).setCell (p := ⟨g, 1, none⟩) hg _).setCell (p := ⟨g, 2, none⟩) hg _⟩
set_option maxRecDepth 100000 in
set_option maxHeartbeats 8000000 in
theorem rlcopy_any (t : LinkG) (v1 v2 v3 : Value) (w : World) (h1 : SeesB w w.heap.size v1 t.1) (h2 : SeesB w w.heap.size v2 t.2.1) (h3 : SeesB w w.heap.size v3 t.2.2) (l1 : t.1.length ≤ 1048576) (l2 : t.2.1.length ≤ 1048576) (l3 : t.2.2.length ≤ 1048576) :
 Calls Tryz.prog 25 #[.agg #[v1, v2, v3]] w (LinkP t w) := by
 obtain ⟨p, b, a⟩ := t
 dsimp only at *
 obtain ⟨A1, c1, rfl, -, -⟩ := h1.mk_
 obtain ⟨A2, c2, rfl, -, -⟩ := h2.mk_
 obtain ⟨A3, c3, rfl, -, -⟩ := h3.mk_
 have hb := bgo (balloc w (.cells #[.slice A1 p.length c1, .slice A2 b.length c2, .slice A3 a.length c3] 32)) (balloc _ (.cells #[.slice none 0 0, .slice none 0 0, .slice none 0 0] 32))
 have x1 := (Box.new w 32 [.slice A1 p.length c1, .slice A2 b.length c2, .slice A3 a.length c3]).below (balloc _ (.cells #[.slice none 0 0, .slice none 0 0, .slice none 0 0] 32))
 have x2 := Box.new (w.alloc (.cells #[.slice A1 p.length c1, .slice A2 b.length c2, .slice A3 a.length c3] 32)) 32 [.slice none 0 0, .slice none 0 0, .slice none 0 0]
 rw [World.size_alloc] at x2
 change Box ((w.alloc (.cells #[.slice A1 p.length c1, .slice A2 b.length c2, .slice A3 a.length c3] 32)).alloc (.cells #[.slice none 0 0, .slice none 0 0, .slice none 0 0] 32)) _ _ _ at x1 x2
 replace h1 := Lib.hid (seesB_of h1 (Nat.le_refl _) hb)
 replace h2 := Lib.hid (seesB_of h2 (Nat.le_refl _) hb)
 replace h3 := Lib.hid (seesB_of h3 (Nat.le_refl _) hb)
 replace l1 := Lib.hid l1
 replace l2 := Lib.hid l2
 replace l3 := Lib.hid l3
 have hs2 := Lib.hid hb.size
 replace hb := Lib.hid hb
 have hg2 : Hid (w.heap.size < w.heap.size + 1) := by show _ < _; omega
 go_enter Tryz.func25, Tryz.ntmps25
 go_upto_region 1 with (fail)
 generalize (w.alloc (.cells #[.slice A1 p.length c1, .slice A2 b.length c2, .slice A3 a.length c3] 32)).alloc (.cells #[.slice none 0 0, .slice none 0 0, .slice none 0 0] 32) = W0 at *
 have hw2 : Hid (w.heap.size ≤ w.heap.size + 1) := by show _ ≤ _; omega
 generalize w.heap.size + 1 = g2 at x2 hg2 hw2 ⊢
 generalize w.heap.size = g1 at x1 hg2 ⊢
 replace x2 := Lib.hid x2
 obtain ⟨k1, k2, k3, -, -, -⟩ := box3_cells x1
 have K : Hid (∀ W, Below W0.heap.size W0 W → W.cell? ⟨g1, 0, none⟩ = some (.slice A1 p.length c1) ∧ W.cell? ⟨g1, 1, none⟩ = some (.slice A2 b.length c2) ∧ W.cell? ⟨g1, 2, none⟩ = some (.slice A3 a.length c3)) := fun W hW => ⟨(x1.below hW).cell 0, (x1.below hW).cell 1, (x1.below hW).cell 2⟩
 have K3 : Hid (∀ W (y0 y1 y2 : Value), Below W0.heap.size W0 W → (((W.setCell ⟨g2, 0, none⟩ y0).setCell ⟨g2, 1, none⟩ y1).setCell ⟨g2, 2, none⟩ y2).cell? ⟨g1, 0, none⟩ = some (.slice A1 p.length c1) ∧ (((W.setCell ⟨g2, 0, none⟩ y0).setCell ⟨g2, 1, none⟩ y1).setCell ⟨g2, 2, none⟩ y2).cell? ⟨g1, 1, none⟩ = some (.slice A2 b.length c2) ∧ (((W.setCell ⟨g2, 0, none⟩ y0).setCell ⟨g2, 1, none⟩ y1).setCell ⟨g2, 2, none⟩ y2).cell? ⟨g1, 2, none⟩ = some (.slice A3 a.length c3)) := fun W y0 y1 y2 hW => by
  have n1 : g1 ≠ g2 := by have := hg2.out; omega
  have b1 := (((x1.below hW).other (j := 0) (v := y0) n1).other (j := 1) (v := y1) n1).other (j := 2) (v := y2) n1
  exact ⟨b1.cell 0, b1.cell 1, b1.cell 2⟩
 clear x1
 go_region_held3 (fun W' : World => W'.cell? ⟨g1, 0, none⟩ = some (.slice A1 p.length c1) ∧ W'.cell? ⟨g1, 1, none⟩ = some (.slice A2 b.length c2) ∧ W'.cell? ⟨g1, 2, none⟩ = some (.slice A3 a.length c3))
  (first | (with_reducible exact K3.out _ _ _ _ (by (repeat (first | exact Below.refl _ _ | (refine bgo ?_ (balloc _ _)) | (refine bgo ?_ (bdrew _)) | (refine bgo ?_ (by assumption)))))) | (with_reducible exact K.out _ (by (repeat (first | exact Below.refl _ _ | (refine bgo ?_ (balloc _ _)) | (refine bgo ?_ (bdrew _)) | (refine bgo ?_ (by assumption)))))) | (go_keep; done))
  (first
   | (go_at_call 69; have _q := m8; (with_reducible refine (rjone (v := .slice A3 a.length c3) (l := a) (by (repeat (first | exact boxn (by with_reducible rfl) | exact boxn (by simp only [World.size_alloc]; done) | (refine Box.below ?_ (balloc _ _)) | (refine Box.below ?_ (bdrew _)) | (refine Box.below ?_ (by assumption))))) (seesB_of h3.out (Nat.le_refl _) (by (repeat (first | exact Below.refl _ _ | (refine bgo ?_ (balloc _ _)) | (refine bgo ?_ (bdrew _)) | (refine bgo ?_ (by assumption)))))) l3.out).mono ?_); rintro e w9 ⟨v9, rfl, o9, hb9⟩
      obtain ⟨B3, d3, rfl, -, -⟩ := o9.sees.mk_
      have m9 := o9.sees
      have x2r := x2.out.below (show Below W0.heap.size W0 w9 by (repeat (first | exact Below.refl _ _ | (refine bgo ?_ (balloc _ _)) | (refine bgo ?_ (bdrew _)) | (refine bgo ?_ (by assumption)))))
      obtain ⟨y0, y1, y2, f0, f1, f2⟩ := box3_cells x2r)
   | (go_at_call 69; have _q := m7; (with_reducible refine (rjone (v := .slice A2 b.length c2) (l := b) (by (repeat (first | exact boxn (by with_reducible rfl) | exact boxn (by simp only [World.size_alloc]; done) | (refine Box.below ?_ (balloc _ _)) | (refine Box.below ?_ (bdrew _)) | (refine Box.below ?_ (by assumption))))) (seesB_of h2.out (Nat.le_refl _) (by (repeat (first | exact Below.refl _ _ | (refine bgo ?_ (balloc _ _)) | (refine bgo ?_ (bdrew _)) | (refine bgo ?_ (by assumption)))))) l2.out).mono ?_); rintro e w8 ⟨v8, rfl, o8, hb8⟩
      obtain ⟨B2, d2, rfl, -, -⟩ := o8.sees.mk_
      have m8 := o8.sees)
   | (go_at_call 69; (with_reducible refine (rjone (v := .slice A1 p.length c1) (l := p) (by (repeat (first | exact boxn (by with_reducible rfl) | exact boxn (by simp only [World.size_alloc]; done) | (refine Box.below ?_ (balloc _ _)) | (refine Box.below ?_ (bdrew _)) | (refine Box.below ?_ (by assumption))))) (seesB_of h1.out (Nat.le_refl _) (by (repeat (first | exact Below.refl _ _ | (refine bgo ?_ (balloc _ _)) | (refine bgo ?_ (bdrew _)) | (refine bgo ?_ (by assumption)))))) l1.out).mono ?_); rintro e w7 ⟨v7, rfl, o7, hb7⟩
      obtain ⟨B1, d1, rfl, -, -⟩ := o7.sees.mk_
      have m7 := o7.sees))
 all_goals
  go_wp2_with fail
  have kd := Lib.hid (link_done (t := (p, b, a)) x2r hw2.out (seesB_of m7 (Nat.le_refl _) (by (repeat (first | exact Below.refl _ _ | (refine bgo ?_ (balloc _ _)) | (refine bgo ?_ (bdrew _)) | (refine bgo ?_ (by assumption)))))) (seesB_of m8 (Nat.le_refl _) (by (repeat (first | exact Below.refl _ _ | (refine bgo ?_ (balloc _ _)) | (refine bgo ?_ (bdrew _)) | (refine bgo ?_ (by assumption)))))) m9 (o7.from.mono (bgo hb.out (by (repeat (first | exact Below.refl _ _ | (refine bgo ?_ (balloc _ _)) | (refine bgo ?_ (bdrew _)) | (refine bgo ?_ (by assumption)))))).size) (o8.from.mono (bgo hb.out (by (repeat (first | exact Below.refl _ _ | (refine bgo ?_ (balloc _ _)) | (refine bgo ?_ (bdrew _)) | (refine bgo ?_ (by assumption)))))).size) (o9.from.mono (bgo hb.out (by (repeat (first | exact Below.refl _ _ | (refine bgo ?_ (balloc _ _)) | (refine bgo ?_ (bdrew _)) | (refine bgo ?_ (by assumption)))))).size) (bgo hb.out (by (repeat (first | exact Below.refl _ _ | (refine bgo ?_ (balloc _ _)) | (refine bgo ?_ (bdrew _)) | (refine bgo ?_ (by assumption)))))))
  have k := box_lset3 x2r (.slice B1 p.length d1) (.slice B2 b.length d2) (.slice B3 a.length d3)
  clear y0 y1 y2 f0 f1 f2 x2r
  generalize ((w9.setCell ⟨g2, 0, none⟩ (.slice B1 p.length d1)).setCell ⟨g2, 1, none⟩ (.slice B2 b.length d2)).setCell ⟨g2, 2, none⟩ (.slice B3 a.length d3) = W9 at *
  obtain ⟨z0, z1, z2, -, -, -⟩ := box3_cells k
  refine bodyPost_ret (v := .agg #[.slice B1 p.length d1, .slice B2 b.length d2, .slice B3 a.length d3]) (by simp [results, Tryz.results25, go_sem, z0, z1, z2]) rfl ?_
  exact kd.out
end Go.Proofs.YtemopnhhmilhbaaGreat
namespace Go.Proofs.YtemopnhhmilhbaaGreat
open Go Go.RowKit
set_option linter.unusedVariables false
theorem SeesR.cut {w : World} {B size n c a b : Nat} {A : Option Addr} {ss : List Spec} (h : SeesR w B (.slice A n c) size n ss) (hab : a ≤ b) (hb : b ≤ n) :
 SeesR w B (.slice (cutA A c a size) (b - a) (c - a)) size (b - a) ((ss.drop (a * size)).take ((b - a) * size)) := by
 obtain ⟨h0, vs, hs, hv⟩ := h
 have hm : (b - a) * size + a * size ≤ n * size := by
  rw [← Nat.add_mul]; exact Nat.mul_le_mul_right _ (by omega)
 refine ⟨by rw [List.length_take, List.length_drop, h0]; omega, _, hs.cut hab hb, fun k s hk => ?_⟩
 have hkl : k < (b - a) * size := by
  have := (List.getElem?_eq_some_iff.1 hk).1
  rw [List.length_take] at this; omega
 rw [List.getElem?_take, if_pos hkl, List.getElem?_drop] at hk ⊢
 exact hv _ s hk
theorem link_drop3 (ls : List LinkG) (a : Nat) : (linkS ls).drop (a * 3) = linkS (ls.drop a) := by
 induction a generalizing ls with
 | zero => simp
 | succ a ih =>
   cases ls with
   | nil => simp [linkS]
   | cons t r =>
     rw [List.drop_succ_cons, ← ih r, Nat.succ_mul, Nat.add_comm, ← List.drop_drop]
     rfl
theorem link_take3 (ls : List LinkG) (a : Nat) : (linkS ls).take (a * 3) = linkS (ls.take a) := by
 induction a generalizing ls with
 | zero => simp [linkS]
 | succ a ih =>
   cases ls with
   | nil => simp [linkS]
   | cons t r =>
     rw [List.take_succ_cons, Nat.succ_mul]
     show ([Spec.byt t.1, .byt t.2.1, .byt t.2.2] ++ linkS r).take (a * 3 + 3) = [Spec.byt t.1, .byt t.2.1, .byt t.2.2] ++ linkS (r.take a)
     rw [← ih r, Nat.add_comm (a * 3) 3, List.take_append, List.take_of_length_le (by simp)]
     simp
/-- A part of a chain. -/
theorem links_cut {w : World} {B n c a b : Nat} {A : Option Addr} {ls : List LinkG} (h : SeesR w B (.slice A n c) 3 n (linkS ls)) (hn : ls.length = n) (hab : a ≤ b) (hb : b ≤ n) :
 SeesR w B (.slice (cutA A c a 3) (b - a) (c - a)) 3 (b - a) (linkS ((ls.drop a).take (b - a))) := by
 have := h.cut hab hb
 rwa [link_drop3, link_take3] at this
section
variable {w W : World} {g o n c base : Nat} {T : TypeId} {ls : List LinkG}
end
section
variable {w W : World} {g n c base size : Nat} {T : TypeId} {v : Value} {ss : List Spec}
theorem OwnRF.at_ (h : OwnRF w base T v size n ss) (h0 : 0 < n) : ∃ g c, v = .slice (some ⟨g, 0, none⟩) n c ∧ base ≤ g ∧ g < w.heap.size ∧ n ≤ c ∧ c ≤ maxLen := by
 have hlt := h.own.lt
 obtain ⟨_, vs, h1, _⟩ := h
 rcases h1.2 with ⟨_, hz⟩ | ⟨g, cap, cur, rfl, hb, hg, hc1, hc2, _⟩
 · omega
 · exact ⟨g, cap, rfl, hb, (hlt g rfl).2, hc1, hc2⟩
theorem elt_grown {u : Value} {s : Spec} (h : EltS w v u s) (hg : w.grownBy W v.ownBlock) : EltS W v u s := by
 cases s with
 | val x => exact h
 | byt l => exact ⟨Elt.grown h hg, h.2⟩
/-- One cell of a row of its own is changed. -/
theorem OwnRF.put {u : Value} {s : Spec} {j : Nat} (h : OwnRF w base T (.slice (some ⟨g, 0, none⟩) n c) size n ss) (hj : j < n * size) (he : EltS w (.slice (some ⟨g, 0, none⟩) n c) u s) (hf : From base u) :
 OwnRF (w.setCell ⟨g, j, none⟩ u) base T (.slice (some ⟨g, 0, none⟩) n c) size n (ss.set j s) := by
 obtain ⟨h0, vs, h1, h2⟩ := h
 have hg := setCell_grown w g j u
 rcases h1.2 with ⟨e, _⟩ | ⟨g', cap, cur, e, hb, hh, hc1, hc2, hcs, htk⟩
 · cases e
 · injection e with e1 _ e3
   injection e1 with e1
   injection e1 with e1
   subst e1 e3
   have hB : Box w g T cur.toList := hh
   have hB' := hB.set j u
   have hvl : vs.length = n * size := h1.1
   refine ⟨by rw [List.length_set, h0], vs.set j u, ⟨by rw [List.length_set, hvl], .inr ⟨g, c, (cur.toList.set j u).toArray, rfl, hb, hB', hc1, hc2, by simp [hcs], ?_⟩⟩, fun k t hk => ?_⟩
   · rw [← htk]
     simp [List.take_set]
   · by_cases hkj : k = j
     · subst hkj
       rw [List.getElem?_set_self (by omega)] at hk ⊢
       cases hk
       exact ⟨u, rfl, elt_grown he hg, hf⟩
     · rw [List.getElem?_set_ne (fun e => hkj e.symm)] at hk ⊢
       obtain ⟨y, e1, e2, e3⟩ := h2 k t hk
       exact ⟨y, e1, elt_grown e2 hg, e3⟩
theorem OwnRF.frozen (h : OwnRF w base T (.slice (some ⟨g, 0, none⟩) n c) size n ss) (j : Nat) : w.frozen? ⟨g, j, none⟩ = false := by
 obtain ⟨_, vs, h1, _⟩ := h
 rcases h1.2 with ⟨e, _⟩ | ⟨g', cap, cur, e, _, hh, _⟩
 · cases e
 · injection e with e1 _ e3
   injection e1 with e1
   injection e1 with e1
   subst e1
   have hB : Box w g T cur.toList := hh
   exact hB.frozen j
theorem OwnRF.cell {j : Nat} {s : Spec} (h : OwnRF w base T (.slice (some ⟨g, 0, none⟩) n c) size n ss) (h0 : 0 < n) (hj : ss[j]? = some s) : ∃ u, w.cell? ⟨g, j, none⟩ = some u ∧ EltS w (.slice (some ⟨g, 0, none⟩) n c) u s ∧ From base u := by
 obtain ⟨_, vs, h1, h2⟩ := h
 obtain ⟨u, e1, e2, e3⟩ := h2 j s hj
 obtain ⟨b, o, e4, hb, hcell⟩ := (Sees.of_own h1).at_ h0
 injection e4 with e5
 injection e5 with e6 e7
 subst e6 e7
 have := hcell j u e1
 rw [Nat.zero_add] at this
 exact ⟨u, this, e2, e3⟩
end
theorem link_put2 (ls : List LinkG) : ∀ (i : Nat) (x : Bs), i < ls.length → (linkS ls).set (i * 3 + 2) (.byt x) = linkS (ls.set i ((linkT ls i).1, (linkT ls i).2.1, x)) := by
 induction ls with
 | nil => intro i x h; simp at h
 | cons a r ih =>
   intro i x h
   cases i with
   | zero => rfl
   | succ i =>
     have := ih i x (by simpa using h)
     show ([Spec.byt a.1, .byt a.2.1, .byt a.2.2] ++ linkS r).set ((i + 1) * 3 + 2) (.byt x) = [Spec.byt a.1, .byt a.2.1, .byt a.2.2] ++ linkS (r.set i ((linkT r i).1, (linkT r i).2.1, x))
     rw [← this, show (i + 1) * 3 + 2 = i * 3 + 2 + 3 by omega]
     rfl
theorem link_put1 (ls : List LinkG) : ∀ (i : Nat) (x : Bs), i < ls.length → (linkS ls).set (i * 3 + 1) (.byt x) = linkS (ls.set i ((linkT ls i).1, x, (linkT ls i).2.2)) := by
 induction ls with
 | nil => intro i x h; simp at h
 | cons a r ih =>
   intro i x h
   cases i with
   | zero => rfl
   | succ i =>
     have := ih i x (by simpa using h)
     show ([Spec.byt a.1, .byt a.2.1, .byt a.2.2] ++ linkS r).set ((i + 1) * 3 + 1) (.byt x) = [Spec.byt a.1, .byt a.2.1, .byt a.2.2] ++ linkS (r.set i ((linkT r i).1, x, (linkT r i).2.2))
     rw [← this, show (i + 1) * 3 + 1 = i * 3 + 1 + 3 by omega]
     rfl
/-- A link's cells in a row of its own. -/
theorem own_link {w : World} {g c base : Nat} {T : TypeId} {ls : List LinkG} (h : OwnRF w base T (.slice (some ⟨g, 0, none⟩) ls.length c) 3 ls.length (linkS ls)) (i : Nat) (hi : i < ls.length) :
 ∃ A1 c1 A2 c2 A3 c3, w.cell? ⟨g, i * 3, none⟩ = some (.slice A1 (linkT ls i).1.length c1) ∧ w.cell? ⟨g, i * 3 + 1, none⟩ = some (.slice A2 (linkT ls i).2.1.length c2) ∧ w.cell? ⟨g, i * 3 + 2, none⟩ = some (.slice A3 (linkT ls i).2.2.length c3) ∧
  (EltS w (.slice (some ⟨g, 0, none⟩) ls.length c) (.slice A1 (linkT ls i).1.length c1) (.byt (linkT ls i).1) ∧ From base (.slice A1 (linkT ls i).1.length c1)) ∧
  (EltS w (.slice (some ⟨g, 0, none⟩) ls.length c) (.slice A2 (linkT ls i).2.1.length c2) (.byt (linkT ls i).2.1) ∧ From base (.slice A2 (linkT ls i).2.1.length c2)) ∧
  (EltS w (.slice (some ⟨g, 0, none⟩) ls.length c) (.slice A3 (linkT ls i).2.2.length c3) (.byt (linkT ls i).2.2) ∧ From base (.slice A3 (linkT ls i).2.2.length c3)) := by
 have hg : ls[i]? = some (linkT ls i) := by rw [linkT, List.getD_eq_getElem?_getD, List.getElem?_eq_getElem hi]; rfl
 obtain ⟨g1, g2, g3⟩ := linkS_get ls i _ hg
 obtain ⟨u1, a1, b1, d1⟩ := h.cell (by omega) g1
 obtain ⟨u2, a2, b2, d2⟩ := h.cell (by omega) g2
 obtain ⟨u3, a3, b3, d3⟩ := h.cell (by omega) g3
 obtain ⟨A1, c1, rfl, -, -⟩ := SeesB.mk_ b1.1
 obtain ⟨A2, c2, rfl, -, -⟩ := SeesB.mk_ b2.1
 obtain ⟨A3, c3, rfl, -, -⟩ := SeesB.mk_ b3.1
 exact ⟨A1, c1, A2, c2, A3, c3, a1, a2, a3, ⟨b1, d1⟩, ⟨b2, d2⟩, ⟨b3, d3⟩⟩
theorem linkT_get (ls : List LinkG) (i : Nat) (h : i < ls.length) : ls[i]? = some (linkT ls i) := by rw [linkT, List.getD_eq_getElem?_getD, List.getElem?_eq_getElem h]; rfl
theorem linkT_mem (ls : List LinkG) (i : Nat) (h : i < ls.length) : linkT ls i ∈ ls := List.mem_of_getElem? (linkT_get ls i h)
theorem set_len {ls : List LinkG} {P : LinkG → Prop} (h : ∀ t ∈ ls, P t) (i : Nat) (x : LinkG) (hx : P x) : ∀ t ∈ ls.set i x, P t := fun t ht => by
 rcases List.mem_or_eq_of_mem_set ht with h1 | h1
 · exact h t h1
 · rw [h1]; exact hx
/-- A chain that is seen, with short links. -/
def LkS (w : World) (v : Value) (W : World) : Prop :=
 ∃ ls : List LinkG, SeesR W W.heap.size v 3 ls.length (linkS ls) ∧ ls.length ≤ 8 ∧ (∀ t ∈ ls, t.1.length ≤ 2048 ∧ t.2.1.length ≤ 2048 ∧ t.2.2.length ≤ 2048) ∧ Below w.heap.size w W
theorem LkS.drew {w W : World} {v : Value} (h : LkS w v W) : LkS w v W.drew := by
 obtain ⟨ls, h1, h2, h3, h4⟩ := h
 exact ⟨ls, (h1.below (bdrew W)).more (bdrew W).size, h2, h3, bgo h4 (bdrew W)⟩
end Go.Proofs.YtemopnhhmilhbaaGreat
namespace Go.Proofs.YtemopnhhmilhbaaGreat
open Go Go.RowKit
set_option linter.unusedVariables false
section
variable {w w' : World} {base n size : Nat} {T : TypeId} {v : Value} {ss : List Spec}
theorem OwnR.poke {G j : Nat} {T' : TypeId} {v' : Value} {xs : List Value} (h : OwnR w base T v size n ss) (hG : G < base) (hbx : Box w G T' xs) (hno : NoByte xs) : OwnR (w.setCell ⟨G, j, none⟩ v') base T v size n ss := by
 have hlt := h.lt
 obtain ⟨h0, vs, h1, h2⟩ := h
 have hne : v.ownBlock ≠ some G := fun e => by have := (hlt G e).1; omega
 refine ⟨h0, vs, h1.kept (setCell_grown w G j v') (.inr hne), fun k s hk => ?_⟩
 obtain ⟨u, e1, e2⟩ := h2 k s hk
 refine ⟨u, e1, ?_⟩
 cases s with
 | val x => exact e2
 | byt l => exact ⟨SeesB.more (e2.1.stay fun hl k hk p hp => World.cell?_setCell_other w _ p v' (fun e => e2.1.notin hbx hno hl (by rw [hk, ← hp, ← e]))) (by simp [World.setCell]), e2.2⟩
theorem before {w7 X w8 : World} (h : Below w7.heap.size w7 X) (h8 : Below X.heap.size X w8) : w7.heap.size ≤ X.heap.size := h.size
end
end Go.Proofs.YtemopnhhmilhbaaGreat
namespace Go.Proofs.YtemopnhhmilhbaaGreat
open Go
section
variable {P : Program} {ops : Array Oper} {Q : Exit → Act → World → Prop} {md : Region.Mode} {S : World → Prop} {s : Nat}
def TillJ (S : World → Prop) (s : Nat) (listed : Array Bool) (w : World) : Prop := listed.getD s true = false → S w
def wpAnyJ (P : Program) (md : Region.Mode) (ops : Array Oper) (Q : Exit → Act → World → Prop) (S : World → Prop) (s : Nat) : Nat → Array Bool → Act → World → Prop
 | 0, listed, a, w => Region.ready md ops listed = [] ∧ Q .normal a w
 | fuel + 1, listed, a, w =>
   (Region.ready md ops listed = [] → Q .normal a w) ∧
   ∀ i ∈ Region.ready md ops listed, wpOp P ops Q i (fun a' w' => TillJ S s (listed.setIfInBounds i true) w' ∧ wpAnyJ P md ops Q S s fuel (listed.setIfInBounds i true) a' w') a w
theorem wpAny_of_J : ∀ (fuel : Nat) (listed : Array Bool) (a : Act) (w : World), wpAnyJ P md ops Q S s fuel listed a w → wpAny P md ops Q fuel listed a w
 | 0, _, _, _, h => h
 | fuel + 1, _, _, _, h => ⟨h.1, fun i hi => wpOp_mono (fun a' w' h' => wpAny_of_J fuel _ a' w' h'.2) (h.2 i hi)⟩
theorem wpAnyJ_first {i : Nat} {oi : Oper} {v : Value} (hi : ops[i]? = some oi) (hsel : ∀ (j : Nat) (o : Oper) cs b, ops[j]? = some o → o.op ≠ .select cs b)
 (hQ : ∀ c a w, Q (.panic c) (a.put oi.dst v) w → Q (.panic c) a w) (hs : s ≠ i) {os : Oper} (ho : ops[s]? = some os) (hw : ∃ e ∈ os.after, Region.binds md e = true ∧ e.on = i) :
 ∀ (fuel : Nat) (listed : Array Bool) (a : Act) (w : World),
  (∀ j oj, ops[j]? = some oj → j ≠ i → listed.getD j true = false → (∀ e ∈ oj.after, Region.binds md e = true → e.on ≠ i) → oi.apart ops oj = true) →
  i ∈ Region.ready md ops listed → YieldsIf P ops S oi v a → listed.getD s true = false → S w →
  wpAnyJ P md ops Q S s fuel (listed.setIfInBounds i true) (a.put oi.dst v) w → wpAnyJ P md ops Q S s (fuel + 1) listed a w := by
 intro fuel
 induction fuel with
 | zero =>
   intro listed a w _ hr hy hu hS H
   refine ⟨fun h => (by rw [h] at hr; cases hr), fun j hj => ?_⟩
   by_cases hji : j = i
   · subst hji; exact hy.wpOp hi hS ⟨fun _ => hS, H⟩
   · have := ready_mono hj hji
     rw [H.1] at this
     cases this
 | succ fuel ih =>
   intro listed a w hfree hr hy hu hS H
   refine ⟨fun h => (by rw [h] at hr; cases hr), fun j hj => ?_⟩
   by_cases hji : j = i
   · subst hji; exact hy.wpOp hi hS ⟨fun _ => hS, H⟩
   · have h1 := H.2 j (ready_mono hj hji)
     obtain ⟨hjun, oj, hoj, hall⟩ := mem_ready.1 hj
     have hnot : ∀ e ∈ oj.after, Region.binds md e = true → e.on ≠ i := fun e he hb heq => by
      have h1 := hall e he hb
      have h0 := (mem_ready.1 hr).1
      rw [heq] at h1
      rcases Nat.lt_or_ge i listed.size with h' | h'
      · simp [h'] at h0 h1; rw [h0] at h1; cases h1
      · simp [Array.getElem?_eq_none h'] at h1
     have hjs : j ≠ s := fun e => by
      subst e
      rw [hoj] at ho
      cases ho
      obtain ⟨e, he, hb, heq⟩ := hw
      exact hnot e he hb heq
     have hu2 : (listed.setIfInBounds j true).getD s true = false := by rw [getD_set_ne true hjs]; exact hu
     have hu3 : ((listed.setIfInBounds i true).setIfInBounds j true).getD s true = false := by rw [getD_set_ne true hjs, getD_set_ne true (Ne.symm hs)]; exact hu
     have h2 := wpOp_putIf hoj (hfree j oj hoj hji hjun hnot) (fun cs b => hsel i oi cs b hi) (fun cs b => hsel j oj cs b hoj) hQ hy h1
     have hfree' : ∀ k ok, ops[k]? = some ok → k ≠ i → (listed.setIfInBounds j true).getD k true = false →
      (∀ e ∈ ok.after, Region.binds md e = true → e.on ≠ i) → oi.apart ops ok = true := fun k ok hk hki hun hno => by
      refine hfree k ok hk hki ?_ hno
      by_cases hjk : j = k
      · subst hjk; exact hjun
      · rw [getD_set_ne true hjk] at hun; exact hun
     refine wpOp_mono (fun a' w' h3 => ⟨fun _ => h3.2.1 hu3, ih (listed.setIfInBounds j true) a' w' hfree' (ready_mono hr (Ne.symm hji)) h3.1 hu2 (h3.2.1 hu3) ?_⟩) h2
     rw [Array.setIfInBounds_comm _ _ hji]
     exact h3.2.2
/-- Take number i first: it yields v in every world that meets S, and the store s waits for it. -/
theorem wpAnyJ_take {i : Nat} {oi os : Oper} {v : Value} {fuel : Nat} {listed : Array Bool} {a : Act} {w : World} (hi : ops[i]? = some oi)
 (hsl : Region.noSelect ops = true) (hf : Region.free md ops listed i = true) (hr : (Region.ready md ops listed).contains i = true)
 (hQ : ∀ c a w, Q (.panic c) (a.put oi.dst v) w → Q (.panic c) a w) (hs : Nat.beq s i = false) (ho : ops[s]? = some os) (hw : os.after.toList.any (fun e => Region.binds md e && Nat.beq e.on i) = true)
 (hu : listed.getD s true = false) (hy : YieldsIf P ops S oi v a) (hS : TillJ S s listed w)
 (h : wpAnyJ P md ops Q S s fuel (listed.setIfInBounds i true) (a.put oi.dst v) w) : wpAnyJ P md ops Q S s (fuel + 1) listed a w := by
 refine wpAnyJ_first hi (Region.noSelect_spec hsl) hQ (Nat.ne_of_beq_eq_false hs) ho ?_ fuel listed a w (Region.free_spec hi hf) (by simpa using hr) hy hu (hS hu) h
 obtain ⟨e, he, h2⟩ := List.any_eq_true.1 hw
 simp only [Bool.and_eq_true] at h2
 exact ⟨e, by simpa using he, h2.1, Nat.eq_of_beq_eq_true h2.2⟩
theorem wpAnyJ_first0 {i : Nat} {oi : Oper} {v : Value} (hi : ops[i]? = some oi) (hsel : ∀ (j : Nat) (o : Oper) cs b, ops[j]? = some o → o.op ≠ .select cs b)
 (hQ : ∀ c a w, Q (.panic c) (a.put oi.dst v) w → Q (.panic c) a w) (hs : s ≠ i) :
 ∀ (fuel : Nat) (listed : Array Bool) (a : Act) (w : World),
  (∀ j oj, ops[j]? = some oj → j ≠ i → listed.getD j true = false → (∀ e ∈ oj.after, Region.binds md e = true → e.on ≠ i) → oi.apart ops oj = true) →
  i ∈ Region.ready md ops listed → YieldsIf P ops (fun _ => True) oi v a → TillJ S s listed w →
  wpAnyJ P md ops Q S s fuel (listed.setIfInBounds i true) (a.put oi.dst v) w → wpAnyJ P md ops Q S s (fuel + 1) listed a w := by
 intro fuel
 induction fuel with
 | zero =>
   intro listed a w _ hr hy hS H
   refine ⟨fun h => (by rw [h] at hr; cases hr), fun j hj => ?_⟩
   by_cases hji : j = i
   · subst hji; exact hy.wpOp hi trivial ⟨fun h => hS (by rw [getD_set_ne true (Ne.symm hs)] at h; exact h), H⟩
   · have := ready_mono hj hji
     rw [H.1] at this
     cases this
 | succ fuel ih =>
   intro listed a w hfree hr hy hS H
   refine ⟨fun h => (by rw [h] at hr; cases hr), fun j hj => ?_⟩
   by_cases hji : j = i
   · subst hji; exact hy.wpOp hi trivial ⟨fun h => hS (by rw [getD_set_ne true (Ne.symm hs)] at h; exact h), H⟩
   · have h1 := H.2 j (ready_mono hj hji)
     obtain ⟨hjun, oj, hoj, hall⟩ := mem_ready.1 hj
     have hnot : ∀ e ∈ oj.after, Region.binds md e = true → e.on ≠ i := fun e he hb heq => by
      have h1 := hall e he hb
      have h0 := (mem_ready.1 hr).1
      rw [heq] at h1
      rcases Nat.lt_or_ge i listed.size with h' | h'
      · simp [h'] at h0 h1; rw [h0] at h1; cases h1
      · simp [Array.getElem?_eq_none h'] at h1
     have h2 := wpOp_putIf hoj (hfree j oj hoj hji hjun hnot) (fun cs b => hsel i oi cs b hi) (fun cs b => hsel j oj cs b hoj) hQ hy h1
     have hfree' : ∀ k ok, ops[k]? = some ok → k ≠ i → (listed.setIfInBounds j true).getD k true = false →
      (∀ e ∈ ok.after, Region.binds md e = true → e.on ≠ i) → oi.apart ops ok = true := fun k ok hk hki hun hno => by
      refine hfree k ok hk hki ?_ hno
      by_cases hjk : j = k
      · subst hjk; exact hjun
      · rw [getD_set_ne true hjk] at hun; exact hun
     have hT : ∀ w', TillJ S s ((listed.setIfInBounds i true).setIfInBounds j true) w' → TillJ S s (listed.setIfInBounds j true) w' := fun w' h hl => h (by
      rw [Array.setIfInBounds_comm _ _ (Ne.symm hji), getD_set_ne true (Ne.symm hs)]; exact hl)
     refine wpOp_mono (fun a' w' h3 => ⟨hT w' h3.2.1, ih (listed.setIfInBounds j true) a' w' hfree' (ready_mono hr (Ne.symm hji)) h3.1 (hT w' h3.2.1) ?_⟩) h2
     rw [Array.setIfInBounds_comm _ _ hji]
     exact h3.2.2
/-- Take number i first: it yields v in every world. -/
theorem wpAnyJ_take0 {i : Nat} {oi : Oper} {v : Value} {fuel : Nat} {listed : Array Bool} {a : Act} {w : World} (hi : ops[i]? = some oi)
 (hsl : Region.noSelect ops = true) (hf : Region.free md ops listed i = true) (hr : (Region.ready md ops listed).contains i = true)
 (hQ : ∀ c a w, Q (.panic c) (a.put oi.dst v) w → Q (.panic c) a w) (hs : Nat.beq s i = false) (hy : YieldsIf P ops (fun _ => True) oi v a) (hS : TillJ S s listed w)
 (h : wpAnyJ P md ops Q S s fuel (listed.setIfInBounds i true) (a.put oi.dst v) w) : wpAnyJ P md ops Q S s (fuel + 1) listed a w :=
 wpAnyJ_first0 hi (Region.noSelect_spec hsl) hQ (Nat.ne_of_beq_eq_false hs) fuel listed a w (Region.free_spec hi hf) (by simpa using hr) hy hS h
theorem wpAnyJ_done {listed : Array Bool} {a : Act} {w : World} (hr : Region.ready md ops listed = []) (h : Q .normal a w) :
 ∀ fuel, wpAnyJ P md ops Q S s fuel listed a w
 | 0 => ⟨hr, h⟩
 | _ + 1 => ⟨fun _ => h, by rw [hr]; simp⟩
def AllReadyJ (P : Program) (md : Region.Mode) (ops : Array Oper) (Q : Exit → Act → World → Prop) (S : World → Prop) (s fuel : Nat) (listed : Array Bool) (a : Act) (w : World) (rs : List Nat) : Prop :=
 ∀ i ∈ rs, wpOp P ops Q i (fun a' w' => TillJ S s (listed.setIfInBounds i true) w' ∧ wpAnyJ P md ops Q S s fuel (listed.setIfInBounds i true) a' w') a w
theorem AllReadyJ.nil {fuel : Nat} {listed : Array Bool} {a : Act} {w : World} : AllReadyJ P md ops Q S s fuel listed a w [] := fun _ h => by cases h
theorem AllReadyJ.cons {fuel : Nat} {listed : Array Bool} {a : Act} {w : World} {i : Nat} {o : Oper} {rs : List Nat} (ho : ops[i]? = some o)
 (h : ∀ K' : Act → World → Prop, Shut (∀ a w, TillJ S s (listed.setIfInBounds i true) w → (TillJ S s (listed.setIfInBounds i true) w → wpAnyJ P md ops Q S s fuel (listed.setIfInBounds i true) a w) → K' a w) → if Region.wanted o (yielded ops a.tmps) = true then Oper.wp P o a w K' Q else K' (a.put o.dst undef) w)
 (hs : AllReadyJ P md ops Q S s fuel listed a w rs) : AllReadyJ P md ops Q S s fuel listed a w (i :: rs) := fun j hj => by
 rcases List.mem_cons.1 hj with rfl | hj
 · exact wpOp_step ho (fun K' hK => h K' (fun a w hS hW => hK a w ⟨hS, hW hS⟩))
 · exact hs j hj
theorem wpAnyJ_ready {rs : List Nat} {fuel : Nat} {listed : Array Bool} {a : Act} {w : World} (hr : Region.ready md ops listed = rs) (hne : rs ≠ [])
 (h : AllReadyJ P md ops Q S s fuel listed a w rs) : wpAnyJ P md ops Q S s (fuel + 1) listed a w := ⟨fun h0 => absurd (hr ▸ h0) hne, hr ▸ h⟩
theorem wp_region_J {id : Nat} {a : Act} {w : World} (S : World → Prop) (s : Nat) (hm : P.follows .mixedOrders = true) (hS : S w.drew)
 (h : TillJ S s (Array.replicate ops.size false) w.drew → wpAnyJ P .any ops Q S s ops.size (Array.replicate ops.size false) a w.drew) : (Code.region id ops true).wp P Q a w :=
 wp_region_any hm (wpAny_of_J _ _ _ _ (h fun _ => hS))
end
end Go.Proofs.YtemopnhhmilhbaaGreat
namespace Go.Proofs.YtemopnhhmilhbaaGreat
open Go Go.RowKit
set_option linter.unusedVariables false
set_option linter.unusedSimpArgs false
attribute [local go_sem ↓] Go.wp_at_zero Go.wp_at_succ
def SeesT (w : World) (B : Nat) (v : Value) (l : List Int) : Prop := Sees w B v 1 l.length (l.map fun x => Value.int .i64 x)
theorem SeesT.mk_ {w : World} {B : Nat} {v : Value} {l : List Int} (h : SeesT w B v l) : ∃ A c, v = .slice A l.length c ∧ l.length ≤ c ∧ c ≤ maxLen := Sees.mk_ h
theorem SeesT.at_ {w : World} {B n c : Nat} {A : Option Addr} {l : List Int} (h : SeesT w B (.slice A n c) l) (hn : 0 < l.length) : ∃ b o, A = some ⟨b, o, none⟩ ∧ b < B ∧ ∀ j, j < l.length → w.cell? ⟨b, o + j, none⟩ = some (.int .i64 (l.getD j 0)) := by
 obtain ⟨A', c', e, -, -⟩ := h.mk_
 injection e with e1 e2 e3
 subst e1 e2 e3
 obtain ⟨b, o, e, hb, hc⟩ := Sees.at_ h hn
 refine ⟨b, o, e, hb, fun j hj => hc j _ ?_⟩
 rw [List.getElem?_map, List.getElem?_eq_getElem hj, List.getD_eq_getElem?_getD, List.getElem?_eq_getElem hj]
 rfl
/-- The tape's place behind a number. -/
def stepK (l : List Int) (k : Nat) : Nat := if k < l.length then k + 1 else k
/-- A tape in memory: its block, the numbers, its place. -/
def TapeAt (w : World) (g : Nat) (u : Value) (l : List Int) (k : Nat) : Prop := Box w g 116 [u, .int .i64 k] ∧ SeesT w g u l ∧ k ≤ l.length
theorem TapeAt.grown {w w' : World} {g : Nat} {u : Value} {l : List Int} {k : Nat} (h : TapeAt w g u l k) (hb : Below w.heap.size w w') : TapeAt w' g u l k :=
 ⟨h.1.below hb, Sees.below h.2.1 (hb.mono (Nat.le_of_lt h.1.lt)), h.2.2⟩
def TapeP (g : Nat) (u : Value) (l : List Int) (k : Nat) (x : Value) (W : World) (e : Ending) (w' : World) : Prop :=
 e = .returned x ∧ TapeAt w' g u l k ∧ W.grownBy w' (some g)
theorem poke_draw (w : World) (g a b : Nat) (v : Value) : Below g w (((w.drewN a).setCell ⟨g, 1, none⟩ v).drewN b) := below_drewN (((below_drewN (Below.refl _ _) a)).setCell (p := ⟨g, 1, none⟩) (Nat.le_refl g) _) b
theorem poke_grown (w : World) (g a b : Nat) (v : Value) : w.grownBy (((w.drewN a).setCell ⟨g, 1, none⟩ v).drewN b) (some g) := ggo (grown_of_below (below_drewN (Below.refl _ _) a) _) (ggo (setCell_grown _ g 1 v) (grown_of_below (below_drewN (Below.refl _ _) b) _))
set_option maxRecDepth 100000 in
theorem tnext_any (g : Nat) (u : Value) (l : List Int) (k : Nat) (w : World) (h : TapeAt w g u l k) :
 Calls Tryz.prog 79 #[.pointer (some ⟨g, 0, none⟩)] w (TapeP g u l (stepK l k) (.int .i64 (l.getD k 0)) w) := by
 obtain ⟨hx, hs, hk⟩ := h
 obtain ⟨A, c, rfl, hc1, hc2⟩ := hs.mk_
 have c0 : w.cell? ⟨g, 0, none⟩ = some (.slice A l.length c) := hx.cell 0
 have c1 : w.cell? ⟨g, 1, none⟩ = some (.int .i64 k) := hx.cell 1
 have f1 := hx.frozen 1
 have hm := hc1
 unfold maxLen at hc2
 by_cases hlt : k < l.length
 · obtain ⟨b, o, rfl, hb, hcell⟩ := hs.at_ (by omega)
   have d0 := hcell k hlt
   have i0 : ¬ (l.length : Int) ≤ (k : Int) := by omega
   have i1 : (0 : Int) ≤ (k : Int) := by omega
   have i2 : (k : Int) < (l.length : Int) := by omega
   have hK : stepK l k = k + 1 := by rw [stepK, if_pos hlt]
   rw [hK]
   have hx2 : Box (w.setCell ⟨g, 1, none⟩ (.int .i64 ((k : Int) + 1))) g 116 [.slice (some ⟨b, o, none⟩) l.length c, .int .i64 ((k + 1 : Nat) : Int)] := by
    have := hx.set 1 (.int .i64 ((k : Int) + 1))
    simpa using this
   have e0 : (w.setCell ⟨g, 1, none⟩ (.int .i64 ((k : Int) + 1))).cell? ⟨g, 0, none⟩ = some (.slice (some ⟨b, o, none⟩) l.length c) := hx2.cell 0
   have e1 : (w.setCell ⟨g, 1, none⟩ (.int .i64 ((k : Int) + 1))).cell? ⟨g, 1, none⟩ = some (.int .i64 ((k : Int) + 1)) := hx2.cell 1
   have e2 : (w.setCell ⟨g, 1, none⟩ (.int .i64 ((k : Int) + 1))).cell? ⟨b, o + k, none⟩ = some (.int .i64 (l.getD k 0)) := (World.cell?_setCell_other w _ _ _ (fun e => by injection e; omega)).trans d0
   generalize l.getD k 0 = y at *
   replace hx2 := Lib.hid hx2
   replace hx := Lib.hid hx
   replace hs := Lib.hid hs
   replace hK := Lib.hid hK
   clear hcell
   go_enter Tryz.func79, Tryz.ntmps79
   go_wp2_with fail
   go_quiet (fail)
   go_wp2_with fail
   go_quiet (fail)
   go_wp2_with fail
   go_returns
   exact ⟨rfl, ⟨hx2.out, Sees.below hs.out (poke_draw _ _ _ _ _), by omega⟩, poke_grown _ _ _ _ _⟩
 · have hke : k = l.length := by omega
   have i0 : (l.length : Int) ≤ (k : Int) := by omega
   have hK : stepK l k = k := by rw [stepK, if_neg hlt]
   rw [hK]
   have hg : l.getD k 0 = 0 := by rw [List.getD_eq_getElem?_getD, List.getElem?_eq_none (by omega)]; rfl
   rw [hg]
   replace hx := Lib.hid hx
   replace hs := Lib.hid hs
   replace hK := Lib.hid hK
   replace hg := Lib.hid hg
   replace hke := Lib.hid hke
   go_enter Tryz.func79, Tryz.ntmps79
   go_wp2_with fail
   go_quiet (fail)
   go_wp2_with fail
   go_returns
   exact ⟨rfl, ⟨hx.out, Sees.below hs.out (below_drewN (Below.refl _ _) _), hk⟩, grown_of_below (below_drewN (Below.refl _ _) _) _⟩
theorem TapeAt.drew {w : World} {g : Nat} {u : Value} {l : List Int} {k : Nat} (h : TapeAt w g u l k) : TapeAt w.drew g u l k := h.grown (bdrew w)
set_option maxRecDepth 100000 in
theorem tint_any (g : Nat) (u : Value) (l : List Int) (k : Nat) (n : Int) (w : World) (h : TapeAt w g u l k) (hn : 1 ≤ n) (hn2 : n ≤ 1048576) :
 Calls Tryz.prog 36 #[.pointer (some ⟨g, 0, none⟩), .int .i64 n] w (TapeP g u l (stepK l k) (.int .i64 (l.getD k 0 % n)) w) := by
 have hnx := Lib.hid (tnext_any g u l k w h)
 have hwi := Lib.hid (fun W => kwithin_any (l.getD k 0) n hn (by omega) W)
 generalize l.getD k 0 = y at *
 clear h
 go_enter Tryz.func36, Tryz.ntmps36
 go_wp2_with fail
 refine hnx.out.mono ?_
 rintro e w1 ⟨rfl, h1, hg1⟩
 dsimp only
 go_wp2_with fail
 refine (hwi.out w1).mono ?_
 rintro e w2 ⟨rfl, rfl⟩
 replace h1 := Lib.hid h1
 dsimp only
 go_wp2_with fail
 go_returns
 exact ⟨rfl, h1.out, hg1⟩
end Go.Proofs.YtemopnhhmilhbaaGreat
namespace Go.Proofs.YtemopnhhmilhbaaGreat
open Go Go.RowKit
set_option linter.unusedVariables false
set_option linter.unusedSimpArgs false
attribute [local go_sem ↓] Go.wp_at_zero Go.wp_at_succ
def placeT (l : List Int) : Nat → Nat
 | 0 => stepK l 0
 | i + 1 => stepK l (stepK l (stepK l (placeT l i)))
def whT (l : List Int) (i : Nat) : Int := l.getD (stepK l (stepK l (placeT l i))) 0 % 2
def whF (l : List Int) (n : Nat) : List Value := (List.range n).map fun j => .int .i64 (whT l j)
theorem whF_next (l : List Int) (n : Nat) : whF l (n + 1) = whF l n ++ [.int .i64 (whT l n)] := by
 rw [whF, whF, List.range_succ, List.map_append]; rfl
theorem TapeAt.row {w w' : World} {g k : Nat} {r : Option Nat} {u : Value} {l : List Int} (h : TapeAt w g u l k) (hg : w.grownBy w' r) (hne : ∀ j, r = some j → g < j) : TapeAt w' g u l k := by
 obtain ⟨h1, h2, h3⟩ := h
 refine ⟨(hg.block g h1.lt (fun e => by have := hne g e.symm; omega)).trans h1, Sees.below h2 ⟨hg.os, hg.tape, hg.output, hg.size, fun k hk => hg.block k (by have := h1.lt; omega) (fun e => by have := hne k e.symm; omega)⟩, h3⟩
theorem row_tape {w w' : World} {g base size n : Nat} {T : TypeId} {v : Value} {xs : List Value} (h : w.ownsRow base T size v n xs) (hg : w.grownBy w' (some g)) (hb : g < base) : w'.ownsRow base T size v n xs :=
 h.kept hg (.inr fun e => by have := (h.lt g e).1; omega)
theorem tnew_any (u : Value) (l : List Int) (w : World) (h : SeesT w w.heap.size u l) :
 Calls Tryz.prog 35 #[u] w fun e w' => e = .returned (.pointer (some ⟨w.heap.size, 0, none⟩)) ∧ TapeAt w' w.heap.size u l 0 ∧ Below w.heap.size w w' ∧ w.heap.size < w'.heap.size := by
 obtain ⟨A, c, rfl, -, -⟩ := h.mk_
 have hal := balloc w (.cells #[.slice A l.length c, .int .i64 0] 116)
 have hx := Lib.hid (Box.new w 116 [.slice A l.length c, .int .i64 0])
 have h2 := Lib.hid (Sees.below h hal)
 replace hal := Lib.hid hal
 clear h
 go_enter Tryz.func35, Tryz.ntmps35
 go_wp2_with fail
 go_returns
 exact ⟨rfl, ⟨hx.out, h2.out, Nat.zero_le _⟩, hal.out, hx.out.lt⟩
theorem sepB {a b : Option Nat} (h : ∀ j, b = some j → a ≠ some j) : a = none ∨ a ≠ b := by
 cases a with
 | none => exact .inl rfl
 | some x => exact .inr (fun e => h x e.symm rfl)
theorem row_mono {w : World} {base base' size n : Nat} {T : TypeId} {v : Value} {xs : List Value} (h : w.ownsRow base T size v n xs) (hb : base' ≤ base) : w.ownsRow base' T size v n xs := by
 refine ⟨h.1, ?_⟩
 rcases h.2 with h | ⟨g, cap, cur, e1, e2, e3⟩
 · exact .inl h
 · exact .inr ⟨g, cap, cur, e1, by omega, e3⟩
end Go.Proofs.YtemopnhhmilhbaaGreat
namespace Go.Proofs.YtemopnhhmilhbaaGreat
open Go Go.RowKit
set_option linter.unusedVariables false
theorem small_vS {lo hi : Int} (h : -50 ≤ lo ∧ lo ≤ 50 ∧ lo ≤ hi ∧ hi ≤ 100) : vS lo hi = true := by
 unfold vS
 rw [decide_eq_true_iff]
 omega
theorem wide_vS : vS (-1099511627776) 1099511627776 = true := by
 unfold vS
 rw [decide_eq_true_iff]
 omega
theorem small_inS {lo hi : Int} (h : -50 ≤ lo ∧ lo ≤ 50 ∧ lo ≤ hi ∧ hi ≤ 100) : inS lo hi (-1099511627776) 1099511627776 = true := by
 unfold inS
 rw [small_vS h, wide_vS, decide_eq_true (by omega), decide_eq_true (by omega)]
 rfl
theorem whT_bounds (l : List Int) (i : Nat) : 0 ≤ whT l i ∧ whT l i < 2 := ⟨Int.emod_nonneg _ (by omega), Int.emod_lt_of_pos _ (by omega)⟩
theorem whF_get (l : List Int) (n j : Nat) (h : j < n) : (whF l n)[j]? = some (.int .i64 (whT l j)) := by
 unfold whF
 rw [List.getElem?_map, List.getElem?_range h]
 rfl
end Go.Proofs.YtemopnhhmilhbaaGreat
namespace Go.Proofs.YtemopnhhmilhbaaGreat
open Go Go.RowKit
set_option linter.unusedVariables false
theorem grant_two {sd p : Bs} {n f t : Int} (h1 : sd.length = 32) (h2 : p.length = 32) (h3 : vS f t = true) (n0 : 0 ≤ n) (n1 : n < 2) : grantR sd 1 n p f t = ((sd, 1, n + 1), (p, f, t, sigG sd 1 n.toNat (tGrant ++ p ++ spanB f t)), 0) := by
 have hv : validI sd 1 n = true := by
  unfold validI
  rw [decide_eq_true h1, decide_eq_true n0, decide_eq_true (show n ≤ 2 ^ (1 : Int).toNat by show n ≤ 2; omega)]
  rfl
 have hs : ∀ m, signAll sd 1 n m = (sd, 1, n + 1, sigG sd 1 n.toNat m, 0) := fun m => by
  unfold signAll
  rw [if_pos hv, if_neg (show ¬ n = 2 ^ (1 : Int).toNat by show ¬ n = 2; omega)]
  rfl
 unfold grantR
 rw [if_pos hv, if_pos h2, if_pos h3, hs]
 rfl
theorem lastA_len (ls : List (Bs × Bs × Bs)) (h : ∀ t ∈ ls, t.1.length = 32 ∧ t.2.1.length = 32 ∧ t.2.2.length ≤ 2048) : (lastA ls).length ≤ 2048 := by
 unfold lastA
 cases e : ls.getLast? with
 | none => simp
 | some t => exact (h t (List.mem_of_getLast? e)).2.2
theorem next_zero {ls : List (Bs × Bs × Bs)} {x : Bs} (h : ∀ t ∈ ls, t.1.length = 32 ∧ t.2.1.length = 32 ∧ t.2.2.length ≤ 2048) (hn : ls.length < 8) (hx : x.length = 32) : nextC ls x = 0 ∧ (nextG ls x).length = 32 := by
 have h1 := lastA_len ls h
 have hc : nonceC (lastA ls) x = 0 := by rw [nonceC, if_neg (by omega), if_pos hx]
 refine ⟨by rw [nextC, if_neg (by omega), hc], ?_⟩
 rw [nextG, if_neg (by omega), nonceG, if_pos hc]
 exact sha_len _
theorem wpList_appRF {ops : Array Oper} {rest : List Oper} {o : Oper} {a : Act} {w : World} {Q : Exit → Act → World → Prop} (hgd : Region.wanted o (yielded ops a.tmps) = true) (s x : Operand) (T E : TypeId) (hT : Tryz.prog.underlying T = some (.slice E))
 (ho : o.op = .call { callee := .builtin .append, args := #[s, x], argTypes := #[T, T] }) (i : TypeInfo) (z : Value) (size bytes : Nat) (hi : Tryz.prog.info? E = some i) (hz : i.zero = some z)
 (hsz : i.size = size) (hby : i.bytes = bytes) (hzs : z.cells.size = size) (h0 : 0 < size) (hby2 : bytes ≤ 1024)
 (base : Nat) (v : Value) (n : Nat) (ss : List Spec) (hs : a.eval s = v) (hown : OwnRF w base E v size n ss) (B : Nat) (u : Value) (m : Nat) (vs : List Value) (ts : List Spec) (hx : a.eval x = u) (hr : Sees w B u size m vs)
 (htl : ts.length = m * size) (hel : ∀ (k : Nat) (t : Spec), ts[k]? = some t → ∃ y, vs[k]? = some y ∧ EltS w v y t ∧ From base y)
 (hlen : n + m ≤ 1048576) (hbase : base ≤ w.heap.size)
 (h : ∀ v' w', OwnRF w' base E v' size (n + m) (ss ++ ts) → Below base w w' → wpList Tryz.prog ops Q rest (a.put o.dst v') w') : wpList Tryz.prog ops Q (o :: rest) a w :=
 BigFrame.wpList_want hgd fun _ hK => wp_appRF s x T E hT ho i z size bytes hi hz hsz hby hzs h0 hby2 base v n ss hs hown B u m vs ts hx hr htl hel hlen hbase fun v' w' h2 h3 _ => hK _ _ (h v' w' h2 h3)
end Go.Proofs.YtemopnhhmilhbaaGreat
namespace Go.Proofs.YtemopnhhmilhbaaGreat
open Go Go.RowKit
set_option linter.unusedVariables false
set_option linter.unusedSimpArgs false
attribute [local go_sem ↓] Go.wp_at_zero Go.wp_at_succ
def KeyPostF (seed : Bs) (h : Int) (w : World) (e : Ending) (w' : World) : Prop :=
 ∃ v, e = .returned (.tuple #[v, .int .i64 (pubC seed h)]) ∧ SeesB w' w'.heap.size v (pubG seed h) ∧ From w.heap.size v ∧ Below w.heap.size w w'
set_option maxRecDepth 100000 in
theorem rpublicF_any (B : Nat) (u : Value) (seed : Bs) (h : Int) (w : World) (hu : SeesB w B u seed) (hB : B ≤ w.heap.size) (hl : seed.length = 32) (hh : 0 ≤ h ∧ h ≤ 6) :
 Calls Tryz.prog 80 #[u, .int .i64 h] w (KeyPostF seed h w) := by
 obtain ⟨h0, h1⟩ := hh
 obtain ⟨k, rfl⟩ := Int.eq_ofNat_of_zero_le h0
 have hc := rleaves_any B u seed k w hu hB hl (by omega)
 have hv : Hid (pubC seed k = 0) := by show _ = _; simp [pubC, hl]; omega
 have hv2 : Hid (pubG seed k = keyG seed k) := by show _ = _; simp [pubG, hl]; omega
 have j0 : decide ((k : Int) < 0) = false := by simp
 have j1 : ¬ ((6 : Int) < (k : Int)) := by omega
 replace hc : Hid (Calls _ _ _ _ (GivesL (leavesL seed (2 ^ k)) w)) := hc
 have hlen := leavesL_len seed (2 ^ k)
 have hp := pow_le64 k (by omega)
 have hel := Lib.hid (leavesL_el seed (2 ^ k))
 obtain ⟨A, c, rfl, -, -⟩ := hu.mk_
 rw [hl] at hc ⊢
 clear hu hl
 rw [← key_root] at hv2
 generalize leavesL seed (2 ^ k) = ls at *
 go_enter Tryz.func80, Tryz.ntmps80
 go_wp2_with fail
 refine hc.out.mono ?_
 rintro e w1 ⟨v, rfl, k1, hb1⟩
 dsimp only
 go_wp2_with fail
 refine (rroot_top ls _ _ _ k1.sees (Nat.le_refl _) (by omega) (fun l hx => by have := hel.out l hx; omega)).mono ?_
 rintro e w2 ⟨v2, rfl, h2, hb2⟩
 dsimp only
 go_wp2_with fail
 go_returns
 exact ⟨v2, by rw [hv.out]; rfl, by rw [hv2.out]; exact h2.sees, h2.from.mono hb1.size, bgo hb1 hb2⟩
def KSignFP (ht : Int) (w : World) (e : Ending) (w' : World) : Prop :=
 ∃ v1 v2 sd pk, e = .returned (.tuple #[.agg #[v1, .int .i64 (ht % 2), .int .i64 0], v2]) ∧ SeesB w' w'.heap.size v1 sd ∧ sd.length = 32 ∧ SeesB w' w'.heap.size v2 pk ∧ pk = pubG sd (ht % 2) ∧ pk.length = 32 ∧ From w.heap.size v2 ∧ Below w.heap.size w w'
set_option maxRecDepth 100000 in
set_option maxHeartbeats 1000000 in
theorem ksignerF_any (v ht : Int) (w : World) : Calls Tryz.prog 37 #[.int .i64 v, .int .i64 ht] w (KSignFP ht w) := by
 have hkr := fun x W => (show Calls Tryz.prog 53 #[.int .i64 x, .int .i64 32] W (Shows (randK x 32) W) from krandom_any x 32 (by omega) W)
 have hwi := fun W => kwithin_any ht 2 (by omega) (by omega) W
 have b1 := balloc w (.cells #[.slice none 0 0, .int .i64 0, .int .i64 0] 61)
 have h4 := Box.new w 61 [.slice none 0 0, .int .i64 0, .int .i64 0]
 have hm0 := Int.emod_nonneg ht (show (2 : Int) ≠ 0 by omega)
 have hm1 := Int.emod_lt_of_pos ht (show (0 : Int) < 2 by omega)
 replace hkr := Lib.hid hkr
 replace hwi := Lib.hid hwi
 replace b1 := Lib.hid b1
 have hm0' := Lib.hid hm0
 have hm1' := Lib.hid hm1
 clear hm0 hm1
 go_enter Tryz.func37, Tryz.ntmps37
 go_wp2_with fail
 change Box (w.alloc (.cells #[.slice none 0 0, .int .i64 0, .int .i64 0] 61)) _ _ _ at h4
 generalize w.alloc (.cells #[.slice none 0 0, .int .i64 0, .int .i64 0] 61) = W1 at *
 generalize hg : w.heap.size = g4 at h4 ⊢
 replace hg := Lib.hid hg
 refine (hkr.out _ _).mono ?_
 rintro e w2 ⟨v2, rfl, t2, hb2, -⟩
 have hl := randK_len (wrap64 (v + 100)) 32 (by omega)
 obtain ⟨A2, c2, rfl, -, -⟩ := t2.mk_
 replace h4 := Lib.hid (h4.below hb2)
 replace b1 := Lib.hid (bgo b1.out hb2)
 replace hl := Lib.hid hl
 generalize randK _ 32 = sd at *
 dsimp only
 go_wp2_with fail
 refine (hwi.out _).mono ?_
 rintro e w3 ⟨rfl, rfl⟩
 generalize hH : ht % 2 = H at *
 replace hH := Lib.hid hH
 dsimp only
 have hal := balloc w3 (.cells #[.slice A2 sd.length c2, .int .i64 H, .int .i64 0] 61)
 have h6 := Box.new w3 61 [.slice A2 sd.length c2, .int .i64 H, .int .i64 0]
 change Box (w3.alloc (.cells #[.slice A2 sd.length c2, .int .i64 H, .int .i64 0] 61)) _ _ _ at h6
 go_upto_region 2 with (fail)
 have t6 := seesB_of t2 (Nat.le_refl _) hal
 replace h4 := Lib.hid (h4.out.below hal)
 replace b1 := Lib.hid (bgo b1.out hal)
 generalize w3.alloc (.cells #[.slice A2 sd.length c2, .int .i64 H, .int .i64 0] 61) = W6 at *
 generalize w3.heap.size = g6 at *
 have c0 := h6.cell 0
 have c1 := h6.cell 1
 simp only [List.getElem?_cons_zero, List.getElem?_cons_succ] at c0 c1
 have hpu := Lib.hid (rpublicF_any W6.heap.size _ sd H W6 t6 (Nat.le_refl _) hl.out ⟨hm0'.out, by have := hm1'.out; omega⟩)
 clear t2 hal hkr hwi
 go_wp2_with fail
 refine hpu.out.mono ?_
 rintro e w7 ⟨vp, rfl, tp, fp, hb7⟩
 obtain ⟨Ap, cp, rfl, -, -⟩ := tp.mk_
 have fw := Lib.hid (fp.mono b1.out.size)
 clear fp
 have h67 := h6.below hb7
 have h47 := h4.out.below hb7
 have t7 := seesB_of t6 (Nat.le_refl _) hb7
 have b7 := Lib.hid (bgo b1.out hb7)
 have hlp : Hid ((pubG sd H).length = 32) := by
  show _ = _
  have hl' : sd.length = 32 := hl.out
  rw [pubG, if_pos (by have := hm0'.out; have := hm1'.out; omega)]
  exact keyG_len _ _
 have hl' : Hid (sd.length = 32) := hl.out
 have hpg : Hid (pubG sd H = pubG sd H) := rfl
 generalize hpk : pubG sd H = pk at tp hlp fw ⊢
 replace hpk := Lib.hid hpk
 have d0 := h67.cell 0
 have d1 := h67.cell 1
 have d2 := h67.cell 2
 have y0 := h47.cell 0
 have y1 := h47.cell 1
 have y2 := h47.cell 2
 simp only [List.getElem?_cons_zero, List.getElem?_cons_succ] at d0 d1 d2 y0 y1 y2
 have f0 := h47.frozen 0
 have f1 := h47.frozen 1
 have f2 := h47.frozen 2
 have n47 := noBL3' (NoB.s none 0 0) (NoB.i 0) (NoB.i 0)
 have hgr := ggo (ggo (setCell_grown w7 g4 0 (.slice A2 sd.length c2)) (setCell_grown _ g4 1 (.int .i64 H))) (setCell_grown _ g4 2 (.int .i64 0))
 have hz : (((w7.setCell ⟨g4, 0, none⟩ (.slice A2 sd.length c2)).setCell ⟨g4, 1, none⟩ (.int .i64 H)).setCell ⟨g4, 2, none⟩ (.int .i64 0)).heap.size = w7.heap.size := by simp [World.setCell]
 have kt := t7.over (Nat.le_refl _) h47 n47 hgr
 have kp := tp.over (Nat.le_refl _) h47 n47 hgr
 have k4 := ((h47.set 0 (.slice A2 sd.length c2)).set 1 (.int .i64 H)).set 2 (.int .i64 0)
 simp only [List.set_cons_zero, List.set_cons_succ] at k4
 rw [← hz] at kt kp
 replace kt := Lib.hid kt
 replace kp := Lib.hid kp
 replace k4 := Lib.hid k4
 have kb := Lib.hid (below_set3 b7.out (Nat.le_of_eq hg.out) (.slice A2 sd.length c2) (.int .i64 H) (.int .i64 0))
 clear hl hgr hz h47 h67 h6 h4 tp t7 t6 c0 c1 b1 hpu
 dsimp only
 go_wp2_with fail
 clear d0 d1 d2 y0 y1 y2 f0 f1 f2
 generalize ((w7.setCell ⟨g4, 0, none⟩ (.slice A2 sd.length c2)).setCell ⟨g4, 1, none⟩ (.int .i64 H)).setCell ⟨g4, 2, none⟩ (.int .i64 0) = W9 at *
 have z0 : W9.cell? ⟨g4, 0, none⟩ = some (.slice A2 sd.length c2) := k4.out.cell 0
 have z1 : W9.cell? ⟨g4, 1, none⟩ = some (.int .i64 H) := k4.out.cell 1
 have z2 : W9.cell? ⟨g4, 2, none⟩ = some (.int .i64 0) := k4.out.cell 2
 refine bodyPost_ret (v := .tuple #[.agg #[.slice A2 sd.length c2, .int .i64 H, .int .i64 0], .slice Ap pk.length cp]) (by simp [results, Tryz.results37, go_sem, z0, z1, z2]) rfl ?_
 exact ⟨_, _, sd, pk, by rw [hH.out], kt.out, hl'.out, kp.out, by rw [hH.out]; exact hpk.out.symm, hlp.out, fw.out, kb.out⟩
end Go.Proofs.YtemopnhhmilhbaaGreat
namespace Go.Proofs.YtemopnhhmilhbaaGreat
open Go Go.RowKit
set_option linter.unusedVariables false
set_option linter.unusedSimpArgs false
attribute [local go_sem ↓] Go.wp_at_zero Go.wp_at_succ
/-- What the first signer of a round leaves. -/
def Sg1 (w : World) (v9 v10 : Value) (W : World) : Prop :=
 ∃ g A c A2 c2 sd pk, v9 = .pointer (some ⟨g, 0, none⟩) ∧ v10 = .slice A2 pk.length c2 ∧ w.heap.size ≤ g ∧ Box W g 61 [.slice A sd.length c, .int .i64 1, .int .i64 0] ∧ SeesB W W.heap.size (.slice A sd.length c) sd ∧ sd.length = 32 ∧ SeesB W W.heap.size (.slice A2 pk.length c2) pk ∧ pk.length = 32 ∧ pk = pubG sd 1 ∧ From w.heap.size (.slice A2 pk.length c2) ∧ Below w.heap.size w W
theorem sees_s3 {W : World} {g : Nat} {T : TypeId} {a b c u : Value} {l : Bs} (h : Box W g T [a, b, c]) (n : NoByte [a, b, c]) (x y z : Value) (hs : SeesB W W.heap.size u l) : SeesB (((W.setCell ⟨g, 0, none⟩ x).setCell ⟨g, 1, none⟩ y).setCell ⟨g, 2, none⟩ z) (((W.setCell ⟨g, 0, none⟩ x).setCell ⟨g, 1, none⟩ y).setCell ⟨g, 2, none⟩ z).heap.size u l := by
 have hz : (((W.setCell ⟨g, 0, none⟩ x).setCell ⟨g, 1, none⟩ y).setCell ⟨g, 2, none⟩ z).heap.size = W.heap.size := by simp [World.setCell]
 rw [hz]
 exact hs.over (Nat.le_refl _) h n (ggo (ggo (setCell_grown W g 0 x) (setCell_grown _ g 1 y)) (setCell_grown _ g 2 z))
theorem sg1_new {w w7 : World} {A A2 : Option Addr} {c c2 : Nat} {sd pk : Bs} (hb : Below w.heap.size w w7) (s1 : SeesB w7 w7.heap.size (.slice A sd.length c) sd) (l1 : sd.length = 32) (s2 : SeesB w7 w7.heap.size (.slice A2 pk.length c2) pk) (l2 : pk.length = 32) (he : pk = pubG sd 1) (f : From w.heap.size (.slice A2 pk.length c2)) :
 Sg1 w (.pointer (some ⟨w7.heap.size, 0, none⟩)) (.slice A2 pk.length c2) (w7.alloc (.cells #[.slice A sd.length c, .int .i64 1, .int .i64 0] 61)) :=
 ⟨_, A, c, A2, c2, sd, pk, rfl, rfl, hb.size, Box.new w7 _ [.slice A sd.length c, .int .i64 1, .int .i64 0], seesB_of s1 (Nat.le_refl _) (balloc _ _), l1, seesB_of s2 (Nat.le_refl _) (balloc _ _), l2, he, f, bgo hb (balloc _ _)⟩
theorem sg1_set {w w7 : World} {g : Nat} {A A2 : Option Addr} {c c2 : Nat} {sd pk : Bs} (bz : Box w7 g 61 [.slice none 0 0, .int .i64 0, .int .i64 0]) (hg : w.heap.size ≤ g) (hb : Below w.heap.size w w7) (s1 : SeesB w7 w7.heap.size (.slice A sd.length c) sd) (l1 : sd.length = 32) (s2 : SeesB w7 w7.heap.size (.slice A2 pk.length c2) pk) (l2 : pk.length = 32) (he : pk = pubG sd 1) (f : From w.heap.size (.slice A2 pk.length c2)) :
 Sg1 w (.pointer (some ⟨g, 0, none⟩)) (.slice A2 pk.length c2) (((w7.setCell ⟨g, 0, none⟩ (.slice A sd.length c)).setCell ⟨g, 1, none⟩ (.int .i64 1)).setCell ⟨g, 2, none⟩ (.int .i64 0)) :=
 ⟨g, A, c, A2, c2, sd, pk, rfl, rfl, hg, box_lset3 bz _ _ _, sees_s3 bz (noBL3' (NoB.s none 0 0) (NoB.i 0) (NoB.i 0)) _ _ _ s1, l1, sees_s3 bz (noBL3' (NoB.s none 0 0) (NoB.i 0) (NoB.i 0)) _ _ _ s2, l2, he, f, below_set3 hb hg _ _ _⟩
/-- Link k is an honest answer with this span. -/
def HonK (ls : List LinkG) (k : Nat) (lo hi : Int) : Prop :=
 ∃ (sd sd2 : Bs) (m : Int), sd.length = 32 ∧ sd2.length = 32 ∧ 0 ≤ m ∧ m < 2 ∧ (linkT ls k).1 = pubG sd 1 ∧ (linkT ls k).2.1.length = 32 ∧
  dansR sd2 0 0 (pubG sd2 0) (-1099511627776) 1099511627776 (sigG sd 1 m.toNat (tGrant ++ pubG sd2 0 ++ spanB (-1099511627776) 1099511627776)) [nextG (ls.take k) (linkT ls k).2.1] lo hi =
   (((sd2, 0, 1), (pubG sd2 0, -1099511627776, 1099511627776, sigG sd 1 m.toNat (tGrant ++ pubG sd2 0 ++ spanB (-1099511627776) 1099511627776))), [(linkT ls k).2.2], 0)
theorem HonK.snoc {ls : List LinkG} {t : LinkG} {k : Nat} {lo hi : Int} (hk : k < ls.length) (h : HonK ls k lo hi) : HonK (ls ++ [t]) k lo hi := by
 have e1 : linkT (ls ++ [t]) k = linkT ls k := by
  unfold linkT
  rw [List.getD_eq_getElem?_getD, List.getD_eq_getElem?_getD, List.getElem?_append_left hk]
 have e2 : (ls ++ [t]).take k = ls.take k := List.take_append_of_le_length (Nat.le_of_lt hk)
 unfold HonK
 rw [e1, e2]
 exact h
theorem HonK.last {ls : List LinkG} {pk bl y sd sd2 : Bs} {m lo hi : Int} {k : Nat} (hk : ls.length = k) (h1 : sd.length = 32) (h2 : sd2.length = 32) (h3 : 0 ≤ m) (h4 : m < 2) (h5 : pk = pubG sd 1) (h6 : bl.length = 32)
 (h7 : dansR sd2 0 0 (pubG sd2 0) (-1099511627776) 1099511627776 (sigG sd 1 m.toNat (tGrant ++ pubG sd2 0 ++ spanB (-1099511627776) 1099511627776)) [nextG ls bl] lo hi =
  (((sd2, 0, 1), (pubG sd2 0, -1099511627776, 1099511627776, sigG sd 1 m.toNat (tGrant ++ pubG sd2 0 ++ spanB (-1099511627776) 1099511627776))), [y], 0)) : HonK (ls ++ [(pk, bl, y)]) k lo hi := by
 subst hk
 have e1 : linkT (ls ++ [(pk, bl, y)]) ls.length = (pk, bl, y) := by
  unfold linkT
  rw [List.getD_eq_getElem?_getD, List.getElem?_append_right (Nat.le_refl _), Nat.sub_self]; rfl
 have e2 : (ls ++ [(pk, bl, y)]).take ls.length = ls := by rw [List.take_append_of_le_length (Nat.le_refl _), List.take_length]
 unfold HonK
 rw [e1, e2]
 exact ⟨sd, sd2, m, h1, h2, h3, h4, h5, h6, h7⟩
def KChainP (N : Nat) (sp : Nat → Int × Int) (w : World) (e : Ending) (w' : World) : Prop :=
 ∃ v ls, e = .returned v ∧ OwnRF w' w.heap.size 32 v 3 ls.length (linkS ls) ∧ ls.length = N ∧ (∀ t ∈ ls, t.1.length = 32 ∧ t.2.1.length = 32 ∧ t.2.2.length ≤ 2048) ∧ (∀ k, k < N → HonK ls k (sp k).1 (sp k).2) ∧ Below w.heap.size w w'
theorem link_eltsK {w : World} {n base : Nat} {v x y z : Value} {a b c : Bs} (h1 : SeesB w w.heap.size x a) (h2 : SeesB w w.heap.size y b) (h3 : SeesB w w.heap.size z c) (f1 : From n x) (f2 : From n y) (f3 : From n z) (hv : ∀ j, v.ownBlock = some j → j < n) (hn : base ≤ n) : ∀ (k : Nat) (s : Spec), (linkS [(a, b, c)])[k]? = some s → ∃ u, [x, y, z][k]? = some u ∧ EltS w v u s ∧ From base u := by
 intro k s hk
 match k, hk with
 | 0, hk => cases hk; exact ⟨_, rfl, EltS.of_from h1 f1 hv, f1.mono hn⟩
 | 1, hk => cases hk; exact ⟨_, rfl, EltS.of_from h2 f2 hv, f2.mono hn⟩
 | 2, hk => cases hk; exact ⟨_, rfl, EltS.of_from h3 f3 hv, f3.mono hn⟩
 | k + 3, hk => simp [linkS] at hk
theorem boxA {X w19 : World} {g : Nat} {T : TypeId} {xs : List Value} (h : Box X g T xs) (h8 : Below X.heap.size X w19) : Box w19 g T xs ∧ g < X.heap.size := ⟨h.below h8, h.lt⟩
theorem ans_new {w17 w19 : World} {n : Nat} {v : Value} {y : Bs} (q : OwnLF w19 n v [y]) (h : w17.heap.size ≤ n) (hb : Below w17.heap.size w17 w19) (o : Obj) : OwnLF (w19.alloc o) w17.heap.size v [y] ∧ Below w17.heap.size w17 (w19.alloc o) :=
 ⟨(q.below (balloc _ _)).mono h, bgo hb (balloc _ _)⟩
theorem ans_set {w17 w19 : World} {g n : Nat} {T : TypeId} {v : Value} {y : Bs} (hx : Box w19 g T [.slice none 0 0, .int .i64 0, .int .i64 0, .slice none 0 0, .int .i64 0, .int .i64 0, .slice none 0 0]) (hgX : g < n) (hg : w17.heap.size ≤ g) (hX : w17.heap.size ≤ n) (q : OwnLF w19 n v [y]) (hb : Below w17.heap.size w17 w19)
 (A1 : Option Addr) (n1 c1 : Nat) (i1 i2 : Int) (A2 : Option Addr) (n2 c2 : Nat) (i3 i4 : Int) (A3 : Option Addr) (n3 c3 : Nat) :
 OwnLF (((((((w19.setCell ⟨g, 0, none⟩ (.slice A1 n1 c1)).setCell ⟨g, 1, none⟩ (.int .i64 i1)).setCell ⟨g, 2, none⟩ (.int .i64 i2)).setCell ⟨g, 3, none⟩ (.slice A2 n2 c2)).setCell ⟨g, 4, none⟩ (.int .i64 i3)).setCell ⟨g, 5, none⟩ (.int .i64 i4)).setCell ⟨g, 6, none⟩ (.slice A3 n3 c3)) w17.heap.size v [y] ∧
  Below w17.heap.size w17 (((((((w19.setCell ⟨g, 0, none⟩ (.slice A1 n1 c1)).setCell ⟨g, 1, none⟩ (.int .i64 i1)).setCell ⟨g, 2, none⟩ (.int .i64 i2)).setCell ⟨g, 3, none⟩ (.slice A2 n2 c2)).setCell ⟨g, 4, none⟩ (.int .i64 i3)).setCell ⟨g, 5, none⟩ (.int .i64 i4)).setCell ⟨g, 6, none⟩ (.slice A3 n3 c3)) :=
 ⟨(OwnLF.set7 hx hgX (NoB.s _ _ _) (NoB.i _) (NoB.i _) (NoB.s _ _ _) (NoB.i _) (NoB.i _) (NoB.s _ _ _) _ _ _ _ _ _ _ (NoB.s _ _ _) (NoB.i _) (NoB.i _) (NoB.s _ _ _) (NoB.i _) (NoB.i _) q).mono hX,
   ((((((hb.setCell (p := ⟨g, 0, none⟩) hg _).setCell (p := ⟨g, 1, none⟩) hg _).setCell (p := ⟨g, 2, none⟩) hg _).setCell (p := ⟨g, 3, none⟩) hg _).setCell (p := ⟨g, 4, none⟩) hg _).setCell (p := ⟨g, 5, none⟩) hg _).setCell (p := ⟨g, 6, none⟩) hg _⟩
set_option maxRecDepth 100000 in
set_option maxHeartbeats 8000000 in
theorem kchain_any (x : Int) (N : Nat) (hN : N ≤ 8) (wh : Nat → Int) (sp : Nat → Int × Int) (xs1 xs2 : List Value) (g1 : ∀ k, k < N → xs1[k]? = some (.int .i64 (wh k))) (g2 : ∀ k, k < N → xs2[k * 2]? = some (.int .i64 (sp k).1) ∧ xs2[k * 2 + 1]? = some (.int .i64 (sp k).2))
 (bw1 : ∀ k, 0 ≤ wh k ∧ wh k ≤ 1000) (bs2 : ∀ k, k < N → vS (sp k).1 (sp k).2 = true ∧ inS (sp k).1 (sp k).2 (-1099511627776) 1099511627776 = true) (u1 u2 : Value) (w : World) (h1 : Sees w w.heap.size u1 1 N xs1) (h2 : Sees w w.heap.size u2 2 N xs2) :
 Calls Tryz.prog 16 #[.int .i64 x, u1, u2] w (KChainP N sp w) := by
 obtain ⟨A1, c1, rfl, -, -⟩ := h1.mk_
 obtain ⟨A2, c2, rfl, -, -⟩ := h2.mk_
 have hks := Lib.hid (fun v ht W => ksignerF_any v ht W)
 have hwi := Lib.hid (fun v m (h : 1 ≤ m) (h' : m ≤ 4294967296) W => kwithin_any v m h h' W)
 have hr1 := Int.emod_nonneg x (show (1000 : Int) ≠ 0 by omega)
 have hr2 := Int.emod_lt_of_pos x (show (0 : Int) < 1000 by omega)
 generalize hq : x % 1000 = q at *
 replace hq := Lib.hid hq
 replace h1 := Lib.hid h1
 replace h2 := Lib.hid h2
 replace g1 := Lib.hid g1
 replace g2 := Lib.hid g2
 replace bw1 := Lib.hid bw1
 replace bs2 := Lib.hid bs2
 go_enter Tryz.func16, Tryz.ntmps16
 go_wp2_with fail
 go_loopw [7, 8] (fun r t wr => ∃ (k : Nat) (ls : List LinkG), k ≤ N ∧ t = .int .i64 k ∧ ls.length = k ∧ Hid (OwnRF wr w.heap.size 32 r 3 k (linkS ls)) ∧ Hid (∀ t ∈ ls, t.1.length = 32 ∧ t.2.1.length = 32 ∧ t.2.2.length ≤ 2048) ∧ Hid (∀ k', k' < k → HonK ls k' (sp k').1 (sp k').2) ∧ Hid (Below w.heap.size w wr)) (fun _ t _ => N - (intOf t).toNat)
 case atStart => exact ⟨0, [], by omega, rfl, rfl, OwnRF.nil _ _ _ _, fun t ht => by simp at ht, fun k' h => absurd h (Nat.not_lt_zero _), Below.refl _ _⟩
 case round =>
  obtain ⟨k, ls, hk, rfl, hlk, ho, hel, hho, hb⟩ := hrel
  replace hlk := Lib.hid hlk
  obtain ⟨Ar, cr, rfl, -, -⟩ := ho.out.own.sees.mk_
  by_cases hlt : k < N
  · have i0 : (k : Int) < (N : Int) := by omega
    have i1 : (0 : Int) ≤ (k : Int) := by omega
    obtain ⟨b1, o1, rfl, hb1, hc1⟩ := (Sees.below h1.out hb.out).at_ (by omega)
    obtain ⟨b2, o2, rfl, hb2, hc2⟩ := (Sees.below h2.out hb.out).at_ (by omega)
    have d1 := hc1 k _ (g1.out k hlt)
    have d2 := hc2 _ _ (g2.out k hlt).1
    have d3 := hc2 _ _ (g2.out k hlt).2
    have hw0 := bw1.out k
    have hsb := Lib.hid (bs2.out k hlt)
    obtain ⟨lo, hlo⟩ : ∃ z, (sp k).1 = z := ⟨_, rfl⟩
    obtain ⟨hi, hhi⟩ : ∃ z, (sp k).2 = z := ⟨_, rfl⟩
    rw [hlo] at hsb d2
    rw [hhi] at hsb d3
    replace hlo := Lib.hid hlo
    replace hhi := Lib.hid hhi
    generalize wh k = y at *
    have KS : Hid (∀ W, Below wr.heap.size wr W → W.cell? ⟨b2, o2 + k * 2, none⟩ = some (.int .i64 lo) ∧ W.cell? ⟨b2, o2 + k * 2 + 1, none⟩ = some (.int .i64 hi)) := fun W hW => ⟨(hW.cell (p := ⟨b2, o2 + k * 2, none⟩) (Nat.lt_of_lt_of_le hb2 hb.out.size)).trans d2, (hW.cell (p := ⟨b2, o2 + k * 2 + 1, none⟩) (Nat.lt_of_lt_of_le hb2 hb.out.size)).trans d3⟩
    clear d2 d3
    clear hc1 hc2
    have hwq : Hid (∀ W, Calls Tryz.prog 17 #[.int .i64 x, .int .i64 1000] W fun e w' => e = .returned (.int .i64 q) ∧ w' = W) := fun W => by rw [← hq.out]; exact kwithin_any x 1000 (by omega) (by omega) W
    have hk1 : Hid (∀ (v : Int) W, Calls Tryz.prog 37 #[.int .i64 v, .int .i64 1] W (KSignFP 1 W)) := fun v W => ksignerF_any v 1 W
    have hk2 : Hid (∀ (v : Int), Calls Tryz.prog 37 #[.int .i64 v, .int .i64 1] (wr.alloc (.cells #[.slice none 0 0, .int .i64 0, .int .i64 0] 61)).drew (KSignFP 1 (wr.alloc (.cells #[.slice none 0 0, .int .i64 0, .int .i64 0] 61)).drew)) := fun v => ksignerF_any v 1 _
    have hk3 : Hid (∀ (v : Int), Calls Tryz.prog 37 #[.int .i64 v, .int .i64 1] (wr.alloc (.cells #[.slice none 0 0, .int .i64 0, .int .i64 0] 61)) (KSignFP 1 (wr.alloc (.cells #[.slice none 0 0, .int .i64 0, .int .i64 0] 61)))) := fun v => ksignerF_any v 1 _
    have K : Hid (∀ W, Below wr.heap.size wr W → W.cell? ⟨b1, o1 + k, none⟩ = some (.int .i64 y)) := fun W hW => (hW.cell (p := ⟨b1, o1 + k, none⟩) (Nat.lt_of_lt_of_le hb1 hb.out.size)).trans d1
    have K3 : Hid (∀ W (p0 p1 p2 : Value), Below wr.heap.size wr W → (((W.setCell ⟨wr.heap.size, 0, none⟩ p0).setCell ⟨wr.heap.size, 1, none⟩ p1).setCell ⟨wr.heap.size, 2, none⟩ p2).cell? ⟨b1, o1 + k, none⟩ = some (.int .i64 y)) := fun W p0 p1 p2 hW => K.out _ (below_set3 hW (Nat.le_refl _) _ _ _)
    go_wp2_with fail
    go_cut [9, 10] (fun v9 v10 W => Sg1 wr v9 v10 W)
    case first =>
     go_region_held3 (fun W' : World => W'.cell? ⟨b1, o1 + k, none⟩ = some (.int .i64 y))
      (first | (with_reducible exact K3.out _ _ _ _ (by (repeat (first | exact Below.refl _ _ | (refine bgo ?_ (balloc _ _)) | (refine bgo ?_ (bdrew _)) | (refine bgo ?_ (by assumption)))))) | (with_reducible exact K.out _ (by (repeat (first | exact Below.refl _ _ | (refine bgo ?_ (balloc _ _)) | (refine bgo ?_ (bdrew _)) | (refine bgo ?_ (by assumption)))))) | (go_keep; done))
      (first
       | (go_at_call 17; (with_reducible refine (hwq.out _).mono ?_); rintro e w5 ⟨rfl, hw⟩
          obtain rfl := hw.symm)
       | (go_at_call 37; (with_reducible refine (hk2.out _).mono ?_); rintro e w7 ⟨v1, v2, sd, pk, rfl, s1, hsd, s2, hpe, hpl, f2, hb7⟩
          obtain ⟨B1, e1, rfl, -, -⟩ := s1.mk_
          obtain ⟨B2, e2, rfl, -, -⟩ := s2.mk_
          replace hsd := Lib.hid hsd
          replace hpl := Lib.hid hpl
          replace hpe : Hid (pk = pubG sd 1) := Lib.hid hpe
          have bz := ((Box.new wr 61 [.slice none 0 0, .int .i64 0, .int .i64 0]).below (bdrew _)).below hb7
          obtain ⟨y0, y1, y2, f0, f1, f2'⟩ := box3_cells bz)
       | (go_at_call 37; (with_reducible refine (hk3.out _).mono ?_); rintro e w7 ⟨v1, v2, sd, pk, rfl, s1, hsd, s2, hpe, hpl, f2, hb7⟩
          obtain ⟨B1, e1, rfl, -, -⟩ := s1.mk_
          obtain ⟨B2, e2, rfl, -, -⟩ := s2.mk_
          replace hsd := Lib.hid hsd
          replace hpl := Lib.hid hpl
          replace hpe : Hid (pk = pubG sd 1) := Lib.hid hpe
          have bz := (Box.new wr 61 [.slice none 0 0, .int .i64 0, .int .i64 0]).below hb7
          obtain ⟨y0, y1, y2, f0, f1, f2'⟩ := box3_cells bz)
       | (go_at_call 37; (with_reducible refine (hk1.out _ _).mono ?_); rintro e w7 ⟨v1, v2, sd, pk, rfl, s1, hsd, s2, hpe, hpl, f2, hb7⟩
          obtain ⟨B1, e1, rfl, -, -⟩ := s1.mk_
          obtain ⟨B2, e2, rfl, -, -⟩ := s2.mk_
          replace hsd := Lib.hid hsd
          replace hpl := Lib.hid hpl
          replace hpe : Hid (pk = pubG sd 1) := Lib.hid hpe))
     all_goals
      go_wp2_with fail
      go_meet
      have fw := f2.mono (before (w7 := wr) (by (repeat (first | exact Below.refl _ _ | (refine bgo ?_ (balloc _ _)) | (refine bgo ?_ (bdrew _)) | (refine bgo ?_ (by assumption))))) hb7)
      first
       | with_reducible exact sg1_new (by (repeat (first | exact Below.refl _ _ | (refine bgo ?_ (balloc _ _)) | (refine bgo ?_ (bdrew _)) | (refine bgo ?_ (by assumption))))) s1 hsd.out s2 hpl.out hpe.out fw
       | with_reducible exact sg1_set bz (Nat.le_refl _) (by (repeat (first | exact Below.refl _ _ | (refine bgo ?_ (balloc _ _)) | (refine bgo ?_ (bdrew _)) | (refine bgo ?_ (by assumption))))) s1 hsd.out s2 hpl.out hpe.out fw
    case rest =>
    unfold Sg1 at hcut
    obtain ⟨g9, A9, c9, A10, c10, sd, pk, rfl, rfl, hg9, x9, s9, hsd, s10, hpl, hpe, f10, hb7⟩ := hcut
    obtain ⟨w7, rfl⟩ : ∃ w7 : World, w7 = wc := ⟨_, rfl⟩
    have hn0 := Int.emod_nonneg (k : Int) (show (2 : Int) ≠ 0 by omega)
    have hn1 := Int.emod_lt_of_pos (k : Int) (show (0 : Int) < 2 by omega)
    have hw6 := hwi.out (k : Int) 2 (by omega) (by omega) w7
    generalize (k : Int) % 2 = n at *
    replace hw6 := Lib.hid hw6
    obtain ⟨k1, k2, k3, e1, e2, e3⟩ := box3_cells x9
    have nz : NoByte [Value.slice A9 sd.length c9, .int .i64 1, .int .i64 0] := noBL3' (NoB.s _ _ _) (NoB.i 1) (NoB.i 0)
    have x9' : Box (w7.setCell ⟨g9, 2, none⟩ (.int .i64 n)) g9 61 [.slice A9 sd.length c9, .int .i64 1, .int .i64 n] := by have := x9.set 2 (.int .i64 n); simpa using this
    have s9' := Lib.hid (SeesB.more (SeesB.poke (j := 2) (v' := .int .i64 n) s9 x9 nz) (show w7.heap.size ≤ (w7.setCell ⟨g9, 2, none⟩ (.int .i64 n)).heap.size by simp [World.setCell]))
    have s10' := Lib.hid (SeesB.more (SeesB.poke (j := 2) (v' := .int .i64 n) s10 x9 nz) (show w7.heap.size ≤ (w7.setCell ⟨g9, 2, none⟩ (.int .i64 n)).heap.size by simp [World.setCell]))
    have hb8 := Lib.hid (hb7.setCell (p := ⟨g9, 2, none⟩) hg9 (.int .i64 n))
    replace hsd := Lib.hid hsd
    replace hpl := Lib.hid hpl
    replace f10 := Lib.hid f10
    replace hpe := Lib.hid hpe
    replace hg9 := Lib.hid hg9
    replace x9' := Lib.hid x9'
    clear s9 s10 hb7 nz hwi x9 hk2 hk3 K K3
    go_wp2_with fail
    refine hw6.out.mono ?_
    rintro e w8 ⟨rfl, hw⟩
    obtain rfl := hw.symm
    clear hw6
    dsimp only
    go_upto_region 7 with (fail)
    clear k1 k2 k3 e1 e2 e3
    generalize w7.setCell ⟨g9, 2, none⟩ (.int .i64 n) = W8 at *
    have hk0 : Hid (∀ (v : Int) W, Calls Tryz.prog 37 #[.int .i64 v, .int .i64 0] W (KSignFP 0 W)) := fun v W => ksignerF_any v 0 W
    go_wp2_with fail
    refine (hwq.out _).mono ?_
    rintro e w8 ⟨rfl, hw⟩
    obtain rfl := hw.symm
    dsimp only
    go_wp2_with fail
    refine (hk0.out _ _).mono ?_
    rintro e w9 ⟨v1, v2, sd2, pk2, rfl, s11, hsd2, s12, hpe2, hpl2, -, hb9⟩
    obtain ⟨A11, c11, rfl, -, -⟩ := s11.mk_
    obtain ⟨A12, c12, rfl, -, -⟩ := s12.mk_
    have hal := balloc w9 (.cells #[.slice A11 sd2.length c11, .int .i64 0, .int .i64 0] 61)
    have x11 := Box.new w9 61 [.slice A11 sd2.length c11, .int .i64 0, .int .i64 0]
    change Box (w9.alloc (.cells #[.slice A11 sd2.length c11, .int .i64 0, .int .i64 0] 61)) _ _ _ at x11
    have hb11 := bgo hb9 hal
    have x9w := x9'.out.below hb11
    replace s9' := Lib.hid (seesB_of s9'.out (Nat.le_refl _) hb11)
    replace s10' := Lib.hid (seesB_of s10'.out (Nat.le_refl _) hb11)
    replace s11 := Lib.hid (seesB_of s11 (Nat.le_refl _) hal)
    replace s12 := Lib.hid (seesB_of s12 (Nat.le_refl _) hal)
    replace hb8 := Lib.hid (bgo hb8.out hb11)
    replace hsd2 := Lib.hid hsd2
    replace hpl2 := Lib.hid hpl2
    replace hpe2 : Hid (pk2 = pubG sd2 0) := Lib.hid hpe2
    clear hal hb9 hb11 hk0 hk1 x9'
    dsimp only
    go_upto_region 8 with (fail)
    generalize w9.alloc (.cells #[.slice A11 sd2.length c11, .int .i64 0, .int .i64 0] 61) = W11 at *
    generalize w9.heap.size = g11 at x11 ⊢
    have hgr := rgrant_any W11.heap.size _ _ sd pk2 1 n (-1099511627776) 1099511627776 W11 s9'.out s12.out (Nat.le_refl _) (by have := hpl2.out; omega)
    rw [grant_two hsd.out hpl2.out wide_vS hn0 hn1] at hgr
    have hfS : fitsG (sigG sd 1 n.toNat (tGrant ++ pk2 ++ spanB (-1099511627776) 1099511627776)) = true := head_sig _ _ _ _ (by omega)
    have hSl : (sigG sd 1 n.toNat (tGrant ++ pk2 ++ spanB (-1099511627776) 1099511627776)).length ≤ 4000 := by rw [sigG_len]; omega
    unfold GrantP at hgr
    dsimp only at hgr
    generalize hSq : sigG sd 1 n.toNat (tGrant ++ pk2 ++ spanB (-1099511627776) 1099511627776) = S at *
    replace hSq := Lib.hid hSq
    replace hgr := Lib.hid hgr
    replace hfS := Lib.hid hfS
    replace hSl := Lib.hid hSl
    replace x11 := Lib.hid x11
    obtain ⟨k1, k2, k3, -, -, -⟩ := box3_cells x9w
    go_wp2_with fail
    refine hgr.out.mono ?_
    rintro e w12 ⟨v1, v2, v3, rfl, t1, t2, t3, hb12⟩
    obtain ⟨A13, c13, rfl, -, -⟩ := t1.mk_
    obtain ⟨A14, c14, rfl, -, -⟩ := t2.mk_
    obtain ⟨A15, c15, rfl, -, -⟩ := t3.mk_
    clear hgr k1 k2 k3 x9w s9'
    dsimp only
    go_upto_region 9 with (fail)
    have hal12 := bgo (balloc w12 (.cells #[.slice A13 sd.length c13, .int .i64 1, .int .i64 (n + 1)] 61)) (balloc _ (.cells #[.slice A14 pk2.length c14, .int .i64 (-1099511627776), .int .i64 1099511627776, .slice A15 S.length c15] 85))
    have x14 := Box.new (w12.alloc (.cells #[.slice A13 sd.length c13, .int .i64 1, .int .i64 (n + 1)] 61)) 85 [.slice A14 pk2.length c14, .int .i64 (-1099511627776), .int .i64 1099511627776, .slice A15 S.length c15]
    rw [World.size_alloc] at x14
    change Box ((w12.alloc (.cells #[.slice A13 sd.length c13, .int .i64 1, .int .i64 (n + 1)] 61)).alloc (.cells #[.slice A14 pk2.length c14, .int .i64 (-1099511627776), .int .i64 1099511627776, .slice A15 S.length c15] 85)) _ _ _ at x14
    have hb1212 := bgo hb12 hal12
    have x11b := Lib.hid (x11.out.below hb1212)
    replace s10' := Lib.hid (seesB_of s10'.out (Nat.le_refl _) hb1212)
    replace s11 := Lib.hid (seesB_of s11.out (Nat.le_refl _) hb1212)
    replace t2 := Lib.hid (seesB_of t2 (Nat.le_refl _) hal12)
    replace t3 := Lib.hid (seesB_of t3 (Nat.le_refl _) hal12)
    have hb13 := Lib.hid (bgo hb8.out hb1212)
    clear hal12 hb1212 hb12 hb8 x11 t1 s12
    generalize (w12.alloc (.cells #[.slice A13 sd.length c13, .int .i64 1, .int .i64 (n + 1)] 61)).alloc (.cells #[.slice A14 pk2.length c14, .int .i64 (-1099511627776), .int .i64 1099511627776, .slice A15 S.length c15] 85) = W12 at *
    generalize w12.heap.size + 1 = g14 at x14 ⊢
    replace x14 := Lib.hid x14
    have hkr : Hid (∀ (v : Int) W, Calls Tryz.prog 53 #[.int .i64 v, .int .i64 32] W (fun e w' => ∃ bl : Bs, bl.length = 32 ∧ Shows bl W e w')) := fun v W => (krandom_any v 32 (by omega) W).mono fun e w' h => ⟨_, randK_len v 32 (by omega), h⟩
    go_wp2_with fail
    refine (hwq.out _).mono ?_
    rintro e w13 ⟨rfl, hw⟩
    obtain rfl := hw.symm
    dsimp only
    go_wp2_with fail
    refine (hkr.out _ _).mono ?_
    rintro e w15 ⟨bl, hbl, vb, rfl, sb, hb15, fb⟩
    obtain ⟨Ab, cb, rfl, -, -⟩ := sb.mk_
    have hbw15 := Lib.hid (bgo hb13.out hb15)
    have hnz := next_zero hel.out (by have := hlk.out; omega) hbl
    have hne := Lib.hid (rnext_any w15.heap.size w15.heap.size (.slice Ar k cr) _ ls bl w15 (by have h := (ho.out.below hbw15.out).own.sees; have e := hlk.out; rw [e]; exact h) (Nat.le_refl _) sb (Nat.le_refl _))
    unfold NextP at hne
    rw [hnz.1] at hne
    have hnl := Lib.hid hnz.2
    generalize hnn : nextG ls bl = nn at *
    replace hnn := Lib.hid hnn
    replace hbl := Lib.hid hbl
    have x11c := Lib.hid (x11b.out.below hb15)
    have x14c := Lib.hid (x14.out.below hb15)
    replace s10' := Lib.hid (seesB_of s10'.out (Nat.le_refl _) hb15)
    replace s11 := Lib.hid (seesB_of s11.out (Nat.le_refl _) hb15)
    replace t2 := Lib.hid (seesB_of t2.out (Nat.le_refl _) hb15)
    replace t3 := Lib.hid (seesB_of t3.out (Nat.le_refl _) hb15)
    replace fb := Lib.hid (fb.mono (hb13.out.size))
    replace sb := Lib.hid sb
    clear hb15 hb13 hnz x11b x14 hkr
    dsimp only
    go_wp2_with fail
    refine hne.out.mono ?_
    rintro e w17 ⟨vn, rfl, on, hb17⟩
    obtain ⟨An, cn, rfl, -, -⟩ := on.sees.mk_
    have x11d := x11c.out.below hb17
    have x14d := x14c.out.below hb17
    replace s10' := Lib.hid (seesB_of s10'.out (Nat.le_refl _) hb17)
    replace s11 := Lib.hid (seesB_of s11.out (Nat.le_refl _) hb17)
    replace t2 := Lib.hid (seesB_of t2.out (Nat.le_refl _) hb17)
    replace t3 := Lib.hid (seesB_of t3.out (Nat.le_refl _) hb17)
    replace sb := Lib.hid (seesB_of sb.out (Nat.le_refl _) hb17)
    have hbw17 := Lib.hid (bgo hbw15.out hb17)
    have sn := Lib.hid on.sees
    obtain ⟨y, hR, hyl⟩ := dans_one (sd := sd2) (P := pk2) (S := S) (nn := nn) (h := 0) (f := -1099511627776) (t := 1099511627776) (lo := lo) (hi := hi) hsd2.out (by omega) (by omega) hnl.out hsb.out.1 hpl2.out hfS.out wide_vS hsb.out.2
    replace hyl := Lib.hid hyl
    have hans : Hid (∀ (W : World) (G : Nat), Box W G 29 [.slice An nn.length cn] → Below w17.heap.size w17 W → Calls Tryz.prog 68 #[.agg #[.slice A11 sd2.length c11, .int .i64 0, .int .i64 0, .slice A14 pk2.length c14, .int .i64 (-1099511627776), .int .i64 1099511627776, .slice A15 S.length c15], .slice (some ⟨G, 0, none⟩) 1 1, .agg #[.int .i64 lo, .int .i64 hi]] W
     (fun e w' => ∃ v1 v2 v3 v4, e = .returned (.tuple #[.agg #[v1, .int .i64 0, .int .i64 1, v2, .int .i64 (-1099511627776), .int .i64 1099511627776, v3], v4, .int .i64 0]) ∧ SeesB w' w'.heap.size v1 sd2 ∧ SeesB w' w'.heap.size v2 pk2 ∧ SeesB w' w'.heap.size v3 S ∧ OwnLF w' W.heap.size v4 [y] ∧ Below W.heap.size W w')) := fun W G hG hW => by
     have h := rdanswer_any W.heap.size (.slice A11 sd2.length c11) (.slice A14 pk2.length c14) (.slice A15 S.length c15) (.slice (some ⟨G, 0, none⟩) 1 1) sd2 0 0 pk2 (-1099511627776) 1099511627776 S [nn] lo hi W (seesB_of s11.out (Nat.le_refl _) hW) (seesB_of t2.out (Nat.le_refl _) hW) (seesB_of t3.out (Nat.le_refl _) hW) (sees_box1 hG (seesB_of sn.out (Nat.le_refl _) hW)) (Nat.le_refl _) (by have := hpl2.out; omega) hSl.out (by simp)
     rw [hR] at h
     exact h
    replace hR := Lib.hid hR
    have K17 : Hid (∀ W, Below w17.heap.size w17 W → W.cell? ⟨g11, 0, none⟩ = some (.slice A11 sd2.length c11) ∧ W.cell? ⟨g11, 1, none⟩ = some (.int .i64 0) ∧ W.cell? ⟨g11, 2, none⟩ = some (.int .i64 0) ∧ W.cell? ⟨g14, 0, none⟩ = some (.slice A14 pk2.length c14) ∧ W.cell? ⟨g14, 1, none⟩ = some (.int .i64 (-1099511627776)) ∧ W.cell? ⟨g14, 2, none⟩ = some (.int .i64 1099511627776) ∧ W.cell? ⟨g14, 3, none⟩ = some (.slice A15 S.length c15) ∧ W.cell? ⟨b2, o2 + k * 2, none⟩ = some (.int .i64 lo) ∧ W.cell? ⟨b2, o2 + k * 2 + 1, none⟩ = some (.int .i64 hi)) := fun W hW =>
     ⟨(x11d.below hW).cell 0, (x11d.below hW).cell 1, (x11d.below hW).cell 2, (x14d.below hW).cell 0, (x14d.below hW).cell 1, (x14d.below hW).cell 2, (x14d.below hW).cell 3, (KS.out _ (bgo hbw17.out hW)).1, (KS.out _ (bgo hbw17.out hW)).2⟩
    clear hne hbw15 hb17 x11c x14c x11d x14d on s11 t2 t3 sn
    dsimp only
    go_upto_region 11 with (fail)
    go_cut [20, 21] (fun v20 v21 W => ∃ A c, v20 = .slice A 1 c ∧ v21 = .int .i64 0 ∧ OwnLF W w17.heap.size (.slice A 1 c) [y] ∧ Below w17.heap.size w17 W)
    case first =>
     refine wp_region_J (fun W' : World => W'.cell? ⟨g11, 0, none⟩ = some (.slice A11 sd2.length c11) ∧ W'.cell? ⟨g11, 1, none⟩ = some (.int .i64 0) ∧ W'.cell? ⟨g11, 2, none⟩ = some (.int .i64 0) ∧ W'.cell? ⟨g14, 0, none⟩ = some (.slice A14 pk2.length c14) ∧ W'.cell? ⟨g14, 1, none⟩ = some (.int .i64 (-1099511627776)) ∧ W'.cell? ⟨g14, 2, none⟩ = some (.int .i64 1099511627776) ∧ W'.cell? ⟨g14, 3, none⟩ = some (.slice A15 S.length c15) ∧ W'.cell? ⟨b2, o2 + k * 2, none⟩ = some (.int .i64 lo) ∧ W'.cell? ⟨b2, o2 + k * 2 + 1, none⟩ = some (.int .i64 hi)) 15 (by kernel_rfl) ?_ (fun hHeld => ?_)
     · (try dsimp only); exact K17.out _ (by (repeat (first | exact Below.refl _ _ | (refine bgo ?_ (balloc _ _)) | (refine bgo ?_ (bdrew _)) | (refine bgo ?_ (by assumption)))))
     refine wpAnyJ_take (i := 0) (v := ?_) rfl (by kernel_rfl) (by kernel_rfl) (by kernel_rfl) (fun _ _ _ h => h) (by rfl) rfl (by kernel_rfl) (by kernel_rfl) (Or.inl ⟨by rfl, ?_⟩) (by assumption) ?_
     rotate_left 1
     · intro w hSw; (try dsimp only at hSw); go_simp <;> (try with_reducible rfl)
     try simp only [Act.put, List.getElem_toArray, List.getElem_cons_succ, List.getElem_cons_zero, List.setIfInBounds_toArray, List.set_cons_zero, List.set_cons_succ]
     refine wpAnyJ_take (i := 1) (v := ?_) rfl (by kernel_rfl) (by kernel_rfl) (by kernel_rfl) (fun _ _ _ h => h) (by rfl) rfl (by kernel_rfl) (by kernel_rfl) (Or.inl ⟨by rfl, ?_⟩) (by assumption) ?_
     rotate_left 1
     · intro w hSw; (try dsimp only at hSw); go_simp <;> (try with_reducible rfl)
     try simp only [Act.put, List.getElem_toArray, List.getElem_cons_succ, List.getElem_cons_zero, List.setIfInBounds_toArray, List.set_cons_zero, List.set_cons_succ]
     refine wpAnyJ_take0 (i := 2) (v := ?_) rfl (by kernel_rfl) (by kernel_rfl) (by kernel_rfl) (fun _ _ _ h => h) (by rfl) (Or.inl ⟨by rfl, ?_⟩) (by assumption) ?_
     rotate_left 1
     · intro w hSw; (try dsimp only at hSw); go_simp <;> (try with_reducible rfl)
     try simp only [Act.put, List.getElem_toArray, List.getElem_cons_succ, List.getElem_cons_zero, List.setIfInBounds_toArray, List.set_cons_zero, List.set_cons_succ]
     refine wpAnyJ_take0 (i := 3) (v := ?_) rfl (by kernel_rfl) (by kernel_rfl) (by kernel_rfl) (fun _ _ _ h => h) (by rfl) (Or.inl ⟨by rfl, ?_⟩) (by assumption) ?_
     rotate_left 1
     · intro w hSw; (try dsimp only at hSw); go_simp <;> (try with_reducible rfl)
     try simp only [Act.put, List.getElem_toArray, List.getElem_cons_succ, List.getElem_cons_zero, List.setIfInBounds_toArray, List.set_cons_zero, List.set_cons_succ]
     refine wpAnyJ_take0 (i := 5) (v := ?_) rfl (by kernel_rfl) (by kernel_rfl) (by kernel_rfl) (fun _ _ _ h => h) (by rfl) (Or.inl ⟨by rfl, ?_⟩) (by assumption) ?_
     rotate_left 1
     · intro w hSw; (try dsimp only at hSw); go_simp <;> (try with_reducible rfl)
     try simp only [Act.put, List.getElem_toArray, List.getElem_cons_succ, List.getElem_cons_zero, List.setIfInBounds_toArray, List.set_cons_zero, List.set_cons_succ]
     refine wpAnyJ_take0 (i := 6) (v := ?_) rfl (by kernel_rfl) (by kernel_rfl) (by kernel_rfl) (fun _ _ _ h => h) (by rfl) (Or.inl ⟨by rfl, ?_⟩) (by assumption) ?_
     rotate_left 1
     · intro w hSw; (try dsimp only at hSw); go_simp <;> (try with_reducible rfl)
     try simp only [Act.put, List.getElem_toArray, List.getElem_cons_succ, List.getElem_cons_zero, List.setIfInBounds_toArray, List.set_cons_zero, List.set_cons_succ]
     refine wpAnyJ_take0 (i := 7) (v := ?_) rfl (by kernel_rfl) (by kernel_rfl) (by kernel_rfl) (fun _ _ _ h => h) (by rfl) (Or.inl ⟨by rfl, ?_⟩) (by assumption) ?_
     rotate_left 1
     · intro w hSw; (try dsimp only at hSw); go_simp <;> (try with_reducible rfl)
     try simp only [Act.put, List.getElem_toArray, List.getElem_cons_succ, List.getElem_cons_zero, List.setIfInBounds_toArray, List.set_cons_zero, List.set_cons_succ]
     refine wpAnyJ_take (i := 8) (v := ?_) rfl (by kernel_rfl) (by kernel_rfl) (by kernel_rfl) (fun _ _ _ h => h) (by rfl) rfl (by kernel_rfl) (by kernel_rfl) (Or.inl ⟨by rfl, ?_⟩) (by assumption) ?_
     rotate_left 1
     · intro w hSw; (try dsimp only at hSw); go_simp <;> (try with_reducible rfl)
     try simp only [Act.put, List.getElem_toArray, List.getElem_cons_succ, List.getElem_cons_zero, List.setIfInBounds_toArray, List.set_cons_zero, List.set_cons_succ]
     refine wpAnyJ_ready (rs := [4, 14]) (by kernel_rfl) (by simp) ?_
     refine AllReadyJ.cons (o := _) rfl (fun Kq hKq => ?_) ?_
     · go_simp
       refine hKq.out _ _ ?_ (fun hHeld => ?_)
       · intro _; (try dsimp only); exact K17.out _ (by (repeat (first | exact Below.refl _ _ | (refine bgo ?_ (balloc _ _)) | (refine bgo ?_ (bdrew _)) | (refine bgo ?_ (by assumption)))))
       clear hKq Kq
       try simp only [Act.put, List.getElem_toArray, List.getElem_cons_succ, List.getElem_cons_zero, List.setIfInBounds_toArray, List.set_cons_zero, List.set_cons_succ]
       refine wpAnyJ_ready (rs := [9, 14]) (by kernel_rfl) (by simp) ?_
       refine AllReadyJ.cons (o := _) rfl (fun Kq hKq => ?_) ?_
       · go_simp
         go_at_call 68
         with_reducible refine (hans.out _ _ (by (repeat (first | exact boxn (by with_reducible rfl) | exact boxn (by simp only [World.size_alloc]; done) | (refine Box.below ?_ (balloc _ _)) | (refine Box.below ?_ (bdrew _)) | (refine Box.below ?_ (by assumption))))) (by (repeat (first | exact Below.refl _ _ | (refine bgo ?_ (balloc _ _)) | (refine bgo ?_ (bdrew _)) | (refine bgo ?_ (by assumption)))))).mono ?_
         rintro e w19 ⟨v1, v2, v3, v4, rfl, q1, q2, q3, q4, hb19⟩
         obtain ⟨A21, c21, rfl, -, -⟩ := q1.mk_
         obtain ⟨A22, c22, rfl, -, -⟩ := q2.mk_
         obtain ⟨A23, c23, rfl, -, -⟩ := q3.mk_
         obtain ⟨A24, c24, rfl, -, -⟩ := q4.own.sees.mk_
         replace q4 : OwnLF w19 _ (.slice A24 1 c24) [y] := q4
         have hx0 := before (w7 := w17) (by (repeat (first | exact Below.refl _ _ | (refine bgo ?_ (balloc _ _)) | (refine bgo ?_ (bdrew _)) | (refine bgo ?_ (by assumption))))) hb19
         have hw19 : Below w17.heap.size w17 w19 := by (repeat (first | exact Below.refl _ _ | (refine bgo ?_ (balloc _ _)) | (refine bgo ?_ (bdrew _)) | (refine bgo ?_ (by assumption))))
         go_wp2_with fail
         refine hKq.out _ _ ?_ (fun hHeld => ?_)
         · intro _; (try dsimp only); exact K17.out _ (by (repeat (first | exact Below.refl _ _ | (refine bgo ?_ (balloc _ _)) | (refine bgo ?_ (bdrew _)) | (refine bgo ?_ (by assumption)))))
         clear hKq Kq
         try simp only [Act.put, List.getElem_toArray, List.getElem_cons_succ, List.getElem_cons_zero, List.setIfInBounds_toArray, List.set_cons_zero, List.set_cons_succ]
         refine wpAnyJ_take0 (i := 10) (v := ?_) rfl (by kernel_rfl) (by kernel_rfl) (by kernel_rfl) (fun _ _ _ h => h) (by rfl) (Or.inl ⟨by rfl, ?_⟩) (by assumption) ?_
         rotate_left 1
         · intro w hSw; (try dsimp only at hSw); go_simp <;> (try with_reducible rfl)
         try simp only [Act.put, List.getElem_toArray, List.getElem_cons_succ, List.getElem_cons_zero, List.setIfInBounds_toArray, List.set_cons_zero, List.set_cons_succ]
         refine wpAnyJ_take0 (i := 11) (v := ?_) rfl (by kernel_rfl) (by kernel_rfl) (by kernel_rfl) (fun _ _ _ h => h) (by rfl) (Or.inl ⟨by rfl, ?_⟩) (by assumption) ?_
         rotate_left 1
         · intro w hSw; (try dsimp only at hSw); go_simp <;> (try with_reducible rfl)
         try simp only [Act.put, List.getElem_toArray, List.getElem_cons_succ, List.getElem_cons_zero, List.setIfInBounds_toArray, List.set_cons_zero, List.set_cons_succ]
         refine wpAnyJ_take0 (i := 12) (v := ?_) rfl (by kernel_rfl) (by kernel_rfl) (by kernel_rfl) (fun _ _ _ h => h) (by rfl) (Or.inl ⟨by rfl, ?_⟩) (by assumption) ?_
         rotate_left 1
         · intro w hSw; (try dsimp only at hSw); go_simp <;> (try with_reducible rfl)
         try simp only [Act.put, List.getElem_toArray, List.getElem_cons_succ, List.getElem_cons_zero, List.setIfInBounds_toArray, List.set_cons_zero, List.set_cons_succ]
         refine wpAnyJ_take0 (i := 13) (v := ?_) rfl (by kernel_rfl) (by kernel_rfl) (by kernel_rfl) (fun _ _ _ h => h) (by rfl) (Or.inl ⟨by rfl, ?_⟩) (by assumption) ?_
         rotate_left 1
         · intro w hSw; (try dsimp only at hSw); go_simp <;> (try with_reducible rfl)
         try simp only [Act.put, List.getElem_toArray, List.getElem_cons_succ, List.getElem_cons_zero, List.setIfInBounds_toArray, List.set_cons_zero, List.set_cons_succ]
         refine wpAnyJ_ready (rs := [14]) (by kernel_rfl) (by simp) ?_
         refine AllReadyJ.cons (o := _) rfl (fun Kq hKq => ?_) ?_
         · go_simp
           refine hKq.out _ _ ?_ (fun hHeld => ?_)
           · intro _; (try dsimp only); exact K17.out _ (by (repeat (first | exact Below.refl _ _ | (refine bgo ?_ (balloc _ _)) | (refine bgo ?_ (bdrew _)) | (refine bgo ?_ (by assumption)))))
           clear hKq Kq
           try simp only [Act.put, List.getElem_toArray, List.getElem_cons_succ, List.getElem_cons_zero, List.setIfInBounds_toArray, List.set_cons_zero, List.set_cons_succ]
           refine wpAnyJ_ready (rs := [15]) (by kernel_rfl) (by simp) ?_
           refine AllReadyJ.cons (o := _) rfl (fun Kq hKq => ?_) ?_
           · skip
             first
             | (refine have bq := boxA (g := w17.heap.size) (T := 87) (xs := [.slice none 0 0, .int .i64 0, .int .i64 0, .slice none 0 0, .int .i64 0, .int .i64 0, .slice none 0 0]) ?_ hb19; ?_; (· (repeat (first | exact Box.new _ _ _ | exact boxn (World.size_alloc _ _).symm | (refine Box.below ?_ (balloc _ _)) | (refine Box.below ?_ (bdrew _))))); have bz := bq.1; obtain ⟨e0, e1, e2, e3, e4, e5, e6⟩ := box7_cells bz; have d0 := bz.frozen 0; have d1 := bz.frozen 1; have d2 := bz.frozen 2; have d3 := bz.frozen 3; have d4 := bz.frozen 4; have d5 := bz.frozen 5; have d6 := bz.frozen 6)
             | (refine have bq := boxA (g := w17.heap.size + 1) (T := 87) (xs := [.slice none 0 0, .int .i64 0, .int .i64 0, .slice none 0 0, .int .i64 0, .int .i64 0, .slice none 0 0]) ?_ hb19; ?_; (· (repeat (first | exact Box.new _ _ _ | exact boxn (World.size_alloc _ _).symm | (refine Box.below ?_ (balloc _ _)) | (refine Box.below ?_ (bdrew _))))); have bz := bq.1; obtain ⟨e0, e1, e2, e3, e4, e5, e6⟩ := box7_cells bz; have d0 := bz.frozen 0; have d1 := bz.frozen 1; have d2 := bz.frozen 2; have d3 := bz.frozen 3; have d4 := bz.frozen 4; have d5 := bz.frozen 5; have d6 := bz.frozen 6)
             | skip
             go_simp
             refine hKq.out _ _ ?_ (fun hHeld => ?_)
             · intro hl; exact absurd hl (by decide)
             clear hKq Kq
             try simp only [Act.put, List.getElem_toArray, List.getElem_cons_succ, List.getElem_cons_zero, List.setIfInBounds_toArray, List.set_cons_zero, List.set_cons_succ]
             refine wpAnyJ_take0 (i := 16) (v := ?_) rfl (by kernel_rfl) (by kernel_rfl) (by kernel_rfl) (fun _ _ _ h => h) (by rfl) (Or.inl ⟨by rfl, ?_⟩) (by assumption) ?_
             rotate_left 1
             · intro w hSw; (try dsimp only at hSw); go_simp <;> (try with_reducible rfl)
             try simp only [Act.put, List.getElem_toArray, List.getElem_cons_succ, List.getElem_cons_zero, List.setIfInBounds_toArray, List.set_cons_zero, List.set_cons_succ]
             refine wpAnyJ_take0 (i := 17) (v := ?_) rfl (by kernel_rfl) (by kernel_rfl) (by kernel_rfl) (fun _ _ _ h => h) (by rfl) (Or.inl ⟨by rfl, ?_⟩) (by assumption) ?_
             rotate_left 1
             · intro w hSw; (try dsimp only at hSw); go_simp <;> (try with_reducible rfl)
             try simp only [Act.put, List.getElem_toArray, List.getElem_cons_succ, List.getElem_cons_zero, List.setIfInBounds_toArray, List.set_cons_zero, List.set_cons_succ]
             refine wpAnyJ_done (by kernel_rfl) ?_ _
             try simp only [Act.put, List.setIfInBounds_toArray, List.set_cons_zero, List.set_cons_succ]
             go_wp2_with fail
             go_meet
             refine ⟨_, _, rfl, rfl, ?_⟩
             first | (with_reducible exact ans_new q4 hx0 hw19 _) | (with_reducible exact ans_set bq.1 bq.2 (by omega) hx0 q4 hw19 _ _ _ _ _ _ _ _ _ _ _ _ _)
           exact AllReadyJ.nil
         exact AllReadyJ.nil
       refine AllReadyJ.cons (o := _) rfl (fun Kq hKq => ?_) ?_
       · go_simp
         refine hKq.out _ _ ?_ (fun hHeld => ?_)
         · intro _; (try dsimp only); exact K17.out _ (by (repeat (first | exact Below.refl _ _ | (refine bgo ?_ (balloc _ _)) | (refine bgo ?_ (bdrew _)) | (refine bgo ?_ (by assumption)))))
         clear hKq Kq
         try simp only [Act.put, List.getElem_toArray, List.getElem_cons_succ, List.getElem_cons_zero, List.setIfInBounds_toArray, List.set_cons_zero, List.set_cons_succ]
         refine wpAnyJ_ready (rs := [9]) (by kernel_rfl) (by simp) ?_
         refine AllReadyJ.cons (o := _) rfl (fun Kq hKq => ?_) ?_
         · go_simp
           go_at_call 68
           with_reducible refine (hans.out _ _ (by (repeat (first | exact boxn (by with_reducible rfl) | exact boxn (by simp only [World.size_alloc]; done) | (refine Box.below ?_ (balloc _ _)) | (refine Box.below ?_ (bdrew _)) | (refine Box.below ?_ (by assumption))))) (by (repeat (first | exact Below.refl _ _ | (refine bgo ?_ (balloc _ _)) | (refine bgo ?_ (bdrew _)) | (refine bgo ?_ (by assumption)))))).mono ?_
           rintro e w19 ⟨v1, v2, v3, v4, rfl, q1, q2, q3, q4, hb19⟩
           obtain ⟨A21, c21, rfl, -, -⟩ := q1.mk_
           obtain ⟨A22, c22, rfl, -, -⟩ := q2.mk_
           obtain ⟨A23, c23, rfl, -, -⟩ := q3.mk_
           obtain ⟨A24, c24, rfl, -, -⟩ := q4.own.sees.mk_
           replace q4 : OwnLF w19 _ (.slice A24 1 c24) [y] := q4
           have hx0 := before (w7 := w17) (by (repeat (first | exact Below.refl _ _ | (refine bgo ?_ (balloc _ _)) | (refine bgo ?_ (bdrew _)) | (refine bgo ?_ (by assumption))))) hb19
           have hw19 : Below w17.heap.size w17 w19 := by (repeat (first | exact Below.refl _ _ | (refine bgo ?_ (balloc _ _)) | (refine bgo ?_ (bdrew _)) | (refine bgo ?_ (by assumption))))
           go_wp2_with fail
           refine hKq.out _ _ ?_ (fun hHeld => ?_)
           · intro _; (try dsimp only); exact K17.out _ (by (repeat (first | exact Below.refl _ _ | (refine bgo ?_ (balloc _ _)) | (refine bgo ?_ (bdrew _)) | (refine bgo ?_ (by assumption)))))
           clear hKq Kq
           try simp only [Act.put, List.getElem_toArray, List.getElem_cons_succ, List.getElem_cons_zero, List.setIfInBounds_toArray, List.set_cons_zero, List.set_cons_succ]
           refine wpAnyJ_take0 (i := 10) (v := ?_) rfl (by kernel_rfl) (by kernel_rfl) (by kernel_rfl) (fun _ _ _ h => h) (by rfl) (Or.inl ⟨by rfl, ?_⟩) (by assumption) ?_
           rotate_left 1
           · intro w hSw; (try dsimp only at hSw); go_simp <;> (try with_reducible rfl)
           try simp only [Act.put, List.getElem_toArray, List.getElem_cons_succ, List.getElem_cons_zero, List.setIfInBounds_toArray, List.set_cons_zero, List.set_cons_succ]
           refine wpAnyJ_take0 (i := 11) (v := ?_) rfl (by kernel_rfl) (by kernel_rfl) (by kernel_rfl) (fun _ _ _ h => h) (by rfl) (Or.inl ⟨by rfl, ?_⟩) (by assumption) ?_
           rotate_left 1
           · intro w hSw; (try dsimp only at hSw); go_simp <;> (try with_reducible rfl)
           try simp only [Act.put, List.getElem_toArray, List.getElem_cons_succ, List.getElem_cons_zero, List.setIfInBounds_toArray, List.set_cons_zero, List.set_cons_succ]
           refine wpAnyJ_take0 (i := 12) (v := ?_) rfl (by kernel_rfl) (by kernel_rfl) (by kernel_rfl) (fun _ _ _ h => h) (by rfl) (Or.inl ⟨by rfl, ?_⟩) (by assumption) ?_
           rotate_left 1
           · intro w hSw; (try dsimp only at hSw); go_simp <;> (try with_reducible rfl)
           try simp only [Act.put, List.getElem_toArray, List.getElem_cons_succ, List.getElem_cons_zero, List.setIfInBounds_toArray, List.set_cons_zero, List.set_cons_succ]
           refine wpAnyJ_take0 (i := 13) (v := ?_) rfl (by kernel_rfl) (by kernel_rfl) (by kernel_rfl) (fun _ _ _ h => h) (by rfl) (Or.inl ⟨by rfl, ?_⟩) (by assumption) ?_
           rotate_left 1
           · intro w hSw; (try dsimp only at hSw); go_simp <;> (try with_reducible rfl)
           try simp only [Act.put, List.getElem_toArray, List.getElem_cons_succ, List.getElem_cons_zero, List.setIfInBounds_toArray, List.set_cons_zero, List.set_cons_succ]
           refine wpAnyJ_ready (rs := [15]) (by kernel_rfl) (by simp) ?_
           refine AllReadyJ.cons (o := _) rfl (fun Kq hKq => ?_) ?_
           · skip
             first
             | (refine have bq := boxA (g := w17.heap.size) (T := 87) (xs := [.slice none 0 0, .int .i64 0, .int .i64 0, .slice none 0 0, .int .i64 0, .int .i64 0, .slice none 0 0]) ?_ hb19; ?_; (· (repeat (first | exact Box.new _ _ _ | exact boxn (World.size_alloc _ _).symm | (refine Box.below ?_ (balloc _ _)) | (refine Box.below ?_ (bdrew _))))); have bz := bq.1; obtain ⟨e0, e1, e2, e3, e4, e5, e6⟩ := box7_cells bz; have d0 := bz.frozen 0; have d1 := bz.frozen 1; have d2 := bz.frozen 2; have d3 := bz.frozen 3; have d4 := bz.frozen 4; have d5 := bz.frozen 5; have d6 := bz.frozen 6)
             | (refine have bq := boxA (g := w17.heap.size + 1) (T := 87) (xs := [.slice none 0 0, .int .i64 0, .int .i64 0, .slice none 0 0, .int .i64 0, .int .i64 0, .slice none 0 0]) ?_ hb19; ?_; (· (repeat (first | exact Box.new _ _ _ | exact boxn (World.size_alloc _ _).symm | (refine Box.below ?_ (balloc _ _)) | (refine Box.below ?_ (bdrew _))))); have bz := bq.1; obtain ⟨e0, e1, e2, e3, e4, e5, e6⟩ := box7_cells bz; have d0 := bz.frozen 0; have d1 := bz.frozen 1; have d2 := bz.frozen 2; have d3 := bz.frozen 3; have d4 := bz.frozen 4; have d5 := bz.frozen 5; have d6 := bz.frozen 6)
             | skip
             go_simp
             refine hKq.out _ _ ?_ (fun hHeld => ?_)
             · intro hl; exact absurd hl (by decide)
             clear hKq Kq
             try simp only [Act.put, List.getElem_toArray, List.getElem_cons_succ, List.getElem_cons_zero, List.setIfInBounds_toArray, List.set_cons_zero, List.set_cons_succ]
             refine wpAnyJ_take0 (i := 16) (v := ?_) rfl (by kernel_rfl) (by kernel_rfl) (by kernel_rfl) (fun _ _ _ h => h) (by rfl) (Or.inl ⟨by rfl, ?_⟩) (by assumption) ?_
             rotate_left 1
             · intro w hSw; (try dsimp only at hSw); go_simp <;> (try with_reducible rfl)
             try simp only [Act.put, List.getElem_toArray, List.getElem_cons_succ, List.getElem_cons_zero, List.setIfInBounds_toArray, List.set_cons_zero, List.set_cons_succ]
             refine wpAnyJ_take0 (i := 17) (v := ?_) rfl (by kernel_rfl) (by kernel_rfl) (by kernel_rfl) (fun _ _ _ h => h) (by rfl) (Or.inl ⟨by rfl, ?_⟩) (by assumption) ?_
             rotate_left 1
             · intro w hSw; (try dsimp only at hSw); go_simp <;> (try with_reducible rfl)
             try simp only [Act.put, List.getElem_toArray, List.getElem_cons_succ, List.getElem_cons_zero, List.setIfInBounds_toArray, List.set_cons_zero, List.set_cons_succ]
             refine wpAnyJ_done (by kernel_rfl) ?_ _
             try simp only [Act.put, List.setIfInBounds_toArray, List.set_cons_zero, List.set_cons_succ]
             go_wp2_with fail
             go_meet
             refine ⟨_, _, rfl, rfl, ?_⟩
             first | (with_reducible exact ans_new q4 hx0 hw19 _) | (with_reducible exact ans_set bq.1 bq.2 (by omega) hx0 q4 hw19 _ _ _ _ _ _ _ _ _ _ _ _ _)
           exact AllReadyJ.nil
         exact AllReadyJ.nil
       exact AllReadyJ.nil
     refine AllReadyJ.cons (o := _) rfl (fun Kq hKq => ?_) ?_
     · go_simp
       refine hKq.out _ _ ?_ (fun hHeld => ?_)
       · intro _; (try dsimp only); exact K17.out _ (by (repeat (first | exact Below.refl _ _ | (refine bgo ?_ (balloc _ _)) | (refine bgo ?_ (bdrew _)) | (refine bgo ?_ (by assumption)))))
       clear hKq Kq
       try simp only [Act.put, List.getElem_toArray, List.getElem_cons_succ, List.getElem_cons_zero, List.setIfInBounds_toArray, List.set_cons_zero, List.set_cons_succ]
       refine wpAnyJ_ready (rs := [4]) (by kernel_rfl) (by simp) ?_
       refine AllReadyJ.cons (o := _) rfl (fun Kq hKq => ?_) ?_
       · go_simp
         refine hKq.out _ _ ?_ (fun hHeld => ?_)
         · intro _; (try dsimp only); exact K17.out _ (by (repeat (first | exact Below.refl _ _ | (refine bgo ?_ (balloc _ _)) | (refine bgo ?_ (bdrew _)) | (refine bgo ?_ (by assumption)))))
         clear hKq Kq
         try simp only [Act.put, List.getElem_toArray, List.getElem_cons_succ, List.getElem_cons_zero, List.setIfInBounds_toArray, List.set_cons_zero, List.set_cons_succ]
         refine wpAnyJ_ready (rs := [9]) (by kernel_rfl) (by simp) ?_
         refine AllReadyJ.cons (o := _) rfl (fun Kq hKq => ?_) ?_
         · go_simp
           go_at_call 68
           with_reducible refine (hans.out _ _ (by (repeat (first | exact boxn (by with_reducible rfl) | exact boxn (by simp only [World.size_alloc]; done) | (refine Box.below ?_ (balloc _ _)) | (refine Box.below ?_ (bdrew _)) | (refine Box.below ?_ (by assumption))))) (by (repeat (first | exact Below.refl _ _ | (refine bgo ?_ (balloc _ _)) | (refine bgo ?_ (bdrew _)) | (refine bgo ?_ (by assumption)))))).mono ?_
           rintro e w19 ⟨v1, v2, v3, v4, rfl, q1, q2, q3, q4, hb19⟩
           obtain ⟨A21, c21, rfl, -, -⟩ := q1.mk_
           obtain ⟨A22, c22, rfl, -, -⟩ := q2.mk_
           obtain ⟨A23, c23, rfl, -, -⟩ := q3.mk_
           obtain ⟨A24, c24, rfl, -, -⟩ := q4.own.sees.mk_
           replace q4 : OwnLF w19 _ (.slice A24 1 c24) [y] := q4
           have hx0 := before (w7 := w17) (by (repeat (first | exact Below.refl _ _ | (refine bgo ?_ (balloc _ _)) | (refine bgo ?_ (bdrew _)) | (refine bgo ?_ (by assumption))))) hb19
           have hw19 : Below w17.heap.size w17 w19 := by (repeat (first | exact Below.refl _ _ | (refine bgo ?_ (balloc _ _)) | (refine bgo ?_ (bdrew _)) | (refine bgo ?_ (by assumption))))
           go_wp2_with fail
           refine hKq.out _ _ ?_ (fun hHeld => ?_)
           · intro _; (try dsimp only); exact K17.out _ (by (repeat (first | exact Below.refl _ _ | (refine bgo ?_ (balloc _ _)) | (refine bgo ?_ (bdrew _)) | (refine bgo ?_ (by assumption)))))
           clear hKq Kq
           try simp only [Act.put, List.getElem_toArray, List.getElem_cons_succ, List.getElem_cons_zero, List.setIfInBounds_toArray, List.set_cons_zero, List.set_cons_succ]
           refine wpAnyJ_take0 (i := 10) (v := ?_) rfl (by kernel_rfl) (by kernel_rfl) (by kernel_rfl) (fun _ _ _ h => h) (by rfl) (Or.inl ⟨by rfl, ?_⟩) (by assumption) ?_
           rotate_left 1
           · intro w hSw; (try dsimp only at hSw); go_simp <;> (try with_reducible rfl)
           try simp only [Act.put, List.getElem_toArray, List.getElem_cons_succ, List.getElem_cons_zero, List.setIfInBounds_toArray, List.set_cons_zero, List.set_cons_succ]
           refine wpAnyJ_take0 (i := 11) (v := ?_) rfl (by kernel_rfl) (by kernel_rfl) (by kernel_rfl) (fun _ _ _ h => h) (by rfl) (Or.inl ⟨by rfl, ?_⟩) (by assumption) ?_
           rotate_left 1
           · intro w hSw; (try dsimp only at hSw); go_simp <;> (try with_reducible rfl)
           try simp only [Act.put, List.getElem_toArray, List.getElem_cons_succ, List.getElem_cons_zero, List.setIfInBounds_toArray, List.set_cons_zero, List.set_cons_succ]
           refine wpAnyJ_take0 (i := 12) (v := ?_) rfl (by kernel_rfl) (by kernel_rfl) (by kernel_rfl) (fun _ _ _ h => h) (by rfl) (Or.inl ⟨by rfl, ?_⟩) (by assumption) ?_
           rotate_left 1
           · intro w hSw; (try dsimp only at hSw); go_simp <;> (try with_reducible rfl)
           try simp only [Act.put, List.getElem_toArray, List.getElem_cons_succ, List.getElem_cons_zero, List.setIfInBounds_toArray, List.set_cons_zero, List.set_cons_succ]
           refine wpAnyJ_take0 (i := 13) (v := ?_) rfl (by kernel_rfl) (by kernel_rfl) (by kernel_rfl) (fun _ _ _ h => h) (by rfl) (Or.inl ⟨by rfl, ?_⟩) (by assumption) ?_
           rotate_left 1
           · intro w hSw; (try dsimp only at hSw); go_simp <;> (try with_reducible rfl)
           try simp only [Act.put, List.getElem_toArray, List.getElem_cons_succ, List.getElem_cons_zero, List.setIfInBounds_toArray, List.set_cons_zero, List.set_cons_succ]
           refine wpAnyJ_ready (rs := [15]) (by kernel_rfl) (by simp) ?_
           refine AllReadyJ.cons (o := _) rfl (fun Kq hKq => ?_) ?_
           · skip
             first
             | (refine have bq := boxA (g := w17.heap.size) (T := 87) (xs := [.slice none 0 0, .int .i64 0, .int .i64 0, .slice none 0 0, .int .i64 0, .int .i64 0, .slice none 0 0]) ?_ hb19; ?_; (· (repeat (first | exact Box.new _ _ _ | exact boxn (World.size_alloc _ _).symm | (refine Box.below ?_ (balloc _ _)) | (refine Box.below ?_ (bdrew _))))); have bz := bq.1; obtain ⟨e0, e1, e2, e3, e4, e5, e6⟩ := box7_cells bz; have d0 := bz.frozen 0; have d1 := bz.frozen 1; have d2 := bz.frozen 2; have d3 := bz.frozen 3; have d4 := bz.frozen 4; have d5 := bz.frozen 5; have d6 := bz.frozen 6)
             | (refine have bq := boxA (g := w17.heap.size + 1) (T := 87) (xs := [.slice none 0 0, .int .i64 0, .int .i64 0, .slice none 0 0, .int .i64 0, .int .i64 0, .slice none 0 0]) ?_ hb19; ?_; (· (repeat (first | exact Box.new _ _ _ | exact boxn (World.size_alloc _ _).symm | (refine Box.below ?_ (balloc _ _)) | (refine Box.below ?_ (bdrew _))))); have bz := bq.1; obtain ⟨e0, e1, e2, e3, e4, e5, e6⟩ := box7_cells bz; have d0 := bz.frozen 0; have d1 := bz.frozen 1; have d2 := bz.frozen 2; have d3 := bz.frozen 3; have d4 := bz.frozen 4; have d5 := bz.frozen 5; have d6 := bz.frozen 6)
             | skip
             go_simp
             refine hKq.out _ _ ?_ (fun hHeld => ?_)
             · intro hl; exact absurd hl (by decide)
             clear hKq Kq
             try simp only [Act.put, List.getElem_toArray, List.getElem_cons_succ, List.getElem_cons_zero, List.setIfInBounds_toArray, List.set_cons_zero, List.set_cons_succ]
             refine wpAnyJ_take0 (i := 16) (v := ?_) rfl (by kernel_rfl) (by kernel_rfl) (by kernel_rfl) (fun _ _ _ h => h) (by rfl) (Or.inl ⟨by rfl, ?_⟩) (by assumption) ?_
             rotate_left 1
             · intro w hSw; (try dsimp only at hSw); go_simp <;> (try with_reducible rfl)
             try simp only [Act.put, List.getElem_toArray, List.getElem_cons_succ, List.getElem_cons_zero, List.setIfInBounds_toArray, List.set_cons_zero, List.set_cons_succ]
             refine wpAnyJ_take0 (i := 17) (v := ?_) rfl (by kernel_rfl) (by kernel_rfl) (by kernel_rfl) (fun _ _ _ h => h) (by rfl) (Or.inl ⟨by rfl, ?_⟩) (by assumption) ?_
             rotate_left 1
             · intro w hSw; (try dsimp only at hSw); go_simp <;> (try with_reducible rfl)
             try simp only [Act.put, List.getElem_toArray, List.getElem_cons_succ, List.getElem_cons_zero, List.setIfInBounds_toArray, List.set_cons_zero, List.set_cons_succ]
             refine wpAnyJ_done (by kernel_rfl) ?_ _
             try simp only [Act.put, List.setIfInBounds_toArray, List.set_cons_zero, List.set_cons_succ]
             go_wp2_with fail
             go_meet
             refine ⟨_, _, rfl, rfl, ?_⟩
             first | (with_reducible exact ans_new q4 hx0 hw19 _) | (with_reducible exact ans_set bq.1 bq.2 (by omega) hx0 q4 hw19 _ _ _ _ _ _ _ _ _ _ _ _ _)
           exact AllReadyJ.nil
         exact AllReadyJ.nil
       exact AllReadyJ.nil
     exact AllReadyJ.nil
    case rest =>
    obtain ⟨A24, c24, rfl, rfl, o24, hb24⟩ := hcut
    obtain ⟨w20, rfl⟩ : ∃ w20 : World, w20 = wc := ⟨_, rfl⟩
    obtain ⟨g24, rfl, hg24⟩ : ∃ g, A24 = some ⟨g, 0, none⟩ ∧ w17.heap.size ≤ g := by
     obtain ⟨vs, q1, -⟩ := o24
     rcases q1.2 with ⟨e, hn⟩ | ⟨g, cap, cur, e1, e2, -⟩
     · simp at e
     · injection e1 with e1 e3 e4
       exact ⟨g, e1, e2⟩
    obtain ⟨Ay, cy, z0, ey, fy⟩ := o24.elt (k := 0) (by simp)
    replace z0 : w20.cell? ⟨g24, 0, none⟩ = some (.slice Ay y.length cy) := z0
    have sy : SeesB w20 w20.heap.size (.slice Ay y.length cy) y := ey.1
    replace fy : From w17.heap.size (.slice Ay y.length cy) := fy
    obtain ⟨ti, hti, htz, hts, htb⟩ := info_parts link_infoC
    replace hti := Lib.hid hti
    replace htz := Lib.hid htz
    replace hts := Lib.hid hts
    replace htb := Lib.hid htb
    have hal := balloc w20 (.cells #[.slice A10 pk.length c10, .slice Ab bl.length cb, .slice Ay y.length cy] 32)
    have hrec : Hid (Sees (w20.alloc (.cells #[.slice A10 pk.length c10, .slice Ab bl.length cb, .slice Ay y.length cy] 32)) (w20.heap.size + 1) (.slice (some ⟨w20.heap.size, 0, none⟩) 1 1) 3 1 [.slice A10 pk.length c10, .slice Ab bl.length cb, .slice Ay y.length cy]) := rec_lit w20 32 [.slice A10 pk.length c10, .slice Ab bl.length cb, .slice Ay y.length cy]
    have hv : ∀ j, (Value.slice Ar k cr).ownBlock = some j → j < wr.heap.size := fun j hj => (ho.out.own.lt j hj).2
    have hel2 := Lib.hid (link_eltsK (base := w.heap.size) (v := .slice Ar k cr) (seesB_of s10'.out (Nat.le_refl _) (bgo hb24 hal)) (seesB_of sb.out (Nat.le_refl _) (bgo hb24 hal)) (seesB_of sy (Nat.le_refl _) hal) f10.out fb.out (fy.mono hbw17.out.size) hv hb.out.size)
    have ho2 := Lib.hid (ho.out.below (bgo hbw17.out (bgo hb24 hal)))
    have hb3 := Lib.hid (bgo hb.out (bgo hbw17.out (bgo hb24 hal)))
    have hcnt : Hid (k + 1 ≤ 1048576) := by show _ ≤ _; omega
    have hhon : Hid (∀ k', k' < k + 1 → HonK (ls ++ [(pk, bl, y)]) k' (sp k').1 (sp k').2) := fun k' h => by
     rcases Nat.lt_or_ge k' k with h1 | h1
     · exact (hho.out k' h1).snoc (by rw [hlk.out]; exact h1)
     · obtain rfl : k' = k := by omega
       have hh := hR.out
       rw [← hSq.out, hpe2.out, ← hnn.out] at hh
       rw [hlo.out, hhi.out]
       exact HonK.last hlk.out hsd.out hsd2.out hn0 hn1 hpe.out hbl.out hh
    have hlens : Hid (∀ t ∈ ls ++ [(pk, bl, y)], t.1.length = 32 ∧ t.2.1.length = 32 ∧ t.2.2.length ≤ 2048) := fun t ht => by
     rw [List.mem_append, List.mem_singleton] at ht
     rcases ht with ht | rfl
     · exact hel.out t ht
     · exact ⟨hpl.out, hbl.out, hyl.out⟩
    have hlk2 : Hid ((ls ++ [(pk, bl, y)]).length = k + 1) := by show _ = _; rw [List.length_append, hlk.out]; rfl
    clear hal hv ho hb o24 ey fy sy hb24 hans K17 hR
    go_wp2_with (at_builtin; refine wpList_appRF (by rfl) _ _ 26 32 Tryz.underlying26 rfl ti _ 3 72 hti.out htz.out hts.out htb.out rfl (by omega) (by omega) w.heap.size _ k _ rfl ho2.out _ _ 1 _ (linkS [(pk, bl, y)]) rfl hrec.out rfl hel2.out hcnt.out hb3.out.size ?_)
    intro v' w' hW2 hb4
    replace hW2 : Hid (OwnRF w' w.heap.size 32 v' 3 (k + 1) (linkS (ls ++ [(pk, bl, y)]))) := by show OwnRF _ _ _ _ _ _ _; rw [linkS_append]; exact hW2
    replace hb4 := Lib.hid (hb3.out.trans hb4)
    go_wp2_with fail
    go_roundw
    case rel => exact ⟨k + 1, ls ++ [(pk, bl, y)], by omega, by go_num, hlk2.out, hW2, hlens, hhon, hb4⟩
    case measure => simp [intOf]; omega
  · obtain rfl : k = N := by omega
    have i0 : ¬ (k : Int) < (k : Int) := by omega
    go_wp2_with fail
    go_returns
    have hl2 := hlk.out
    refine ⟨_, ls, rfl, ?_, hl2, hel.out, hho.out, hb.out⟩
    rw [hl2]
    exact ho.out
end Go.Proofs.YtemopnhhmilhbaaGreat

/- What a law leans on beyond the base: contracts, plain functions, walks. Conditions: those of each theorem. -/
import Derived.Shelf.RegionOpen
import Derived.Sort.CutIn
import Derived.RangeFuncNested
import Derived.Maps.OwnIn
import Derived.Test.YtgehkgjllhkhoaaGreatH28
set_option linter.unusedVariables false
set_option linter.unusedSimpArgs false
namespace Go.Proofs.YtgehkgjllhkhoaaGreat
open Go Go.RowKit
set_option linter.unusedVariables false
set_option linter.unusedSimpArgs false
attribute [local go_sem ↓] Go.wp_at_zero Go.wp_at_succ
def SeesT (w : World) (B : Nat) (v : Value) (l : List Int) : Prop := Sees w B v 1 l.length (l.map fun x => Value.int .i64 x)
theorem SeesT.mk_ {w : World} {B : Nat} {v : Value} {l : List Int} (h : SeesT w B v l) : ∃ A c, v = .slice A l.length c ∧ l.length ≤ c ∧ c ≤ maxLen := Sees.mk_ h
theorem SeesT.at_ {w : World} {B n c : Nat} {A : Option Addr} {l : List Int} (h : SeesT w B (.slice A n c) l) (hn : 0 < l.length) : ∃ b o, A = some ⟨b, o, none⟩ ∧ b < B ∧ ∀ j, j < l.length → w.cell? ⟨b, o + j, none⟩ = some (.int .i64 (l.getD j 0)) := by
 obtain ⟨A', c', e, -, -⟩ := h.mk_
 injection e with e1 e2 e3
 subst e1 e2 e3
 obtain ⟨b, o, e, hb, hc⟩ := Sees.at_ h hn
 refine ⟨b, o, e, hb, fun j hj => hc j _ ?_⟩
 rw [List.getElem?_map, List.getElem?_eq_getElem hj, List.getD_eq_getElem?_getD, List.getElem?_eq_getElem hj]
 rfl
def stepK (l : List Int) (k : Nat) : Nat := if k < l.length then k + 1 else k
def TapeAt (w : World) (g : Nat) (u : Value) (l : List Int) (k : Nat) : Prop := Box w g 108 [u, .int .i64 k] ∧ SeesT w g u l ∧ k ≤ l.length
theorem TapeAt.grown {w w' : World} {g : Nat} {u : Value} {l : List Int} {k : Nat} (h : TapeAt w g u l k) (hb : Below w.heap.size w w') : TapeAt w' g u l k :=
 ⟨h.1.below hb, Sees.below h.2.1 (hb.mono (Nat.le_of_lt h.1.lt)), h.2.2⟩
def TapeP (g : Nat) (u : Value) (l : List Int) (k : Nat) (x : Value) (W : World) (e : Ending) (w' : World) : Prop :=
 e = .returned x ∧ TapeAt w' g u l k ∧ W.grownBy w' (some g)
theorem poke_draw (w : World) (g a b : Nat) (v : Value) : Below g w (((w.drewN a).setCell ⟨g, 1, none⟩ v).drewN b) := below_drewN (((below_drewN (Below.refl _ _) a)).setCell (p := ⟨g, 1, none⟩) (Nat.le_refl g) _) b
theorem poke_grown (w : World) (g a b : Nat) (v : Value) : w.grownBy (((w.drewN a).setCell ⟨g, 1, none⟩ v).drewN b) (some g) := ggo (grown_of_below (below_drewN (Below.refl _ _) a) _) (ggo (setCell_grown _ g 1 v) (grown_of_below (below_drewN (Below.refl _ _) b) _))
set_option maxRecDepth 100000 in
theorem tnext_any (g : Nat) (u : Value) (l : List Int) (k : Nat) (w : World) (h : TapeAt w g u l k) :
 Calls Tryz.prog 67 #[.pointer (some ⟨g, 0, none⟩)] w (TapeP g u l (stepK l k) (.int .i64 (l.getD k 0)) w) := by
 obtain ⟨hx, hs, hk⟩ := h
 obtain ⟨A, c, rfl, hc1, hc2⟩ := hs.mk_
 have c0 : w.cell? ⟨g, 0, none⟩ = some (.slice A l.length c) := hx.cell 0
 have c1 : w.cell? ⟨g, 1, none⟩ = some (.int .i64 k) := hx.cell 1
 have f1 := hx.frozen 1
 have hm := hc1
 unfold maxLen at hc2
 by_cases hlt : k < l.length
 · obtain ⟨b, o, rfl, hb, hcell⟩ := hs.at_ (by omega)
   have d0 := hcell k hlt
   have i0 : ¬ (l.length : Int) ≤ (k : Int) := by omega
   have i1 : (0 : Int) ≤ (k : Int) := by omega
   have i2 : (k : Int) < (l.length : Int) := by omega
   have hK : stepK l k = k + 1 := by rw [stepK, if_pos hlt]
   rw [hK]
   have hx2 : Box (w.setCell ⟨g, 1, none⟩ (.int .i64 ((k : Int) + 1))) g 108 [.slice (some ⟨b, o, none⟩) l.length c, .int .i64 ((k + 1 : Nat) : Int)] := by
    have := hx.set 1 (.int .i64 ((k : Int) + 1))
    simpa using this
   have e0 : (w.setCell ⟨g, 1, none⟩ (.int .i64 ((k : Int) + 1))).cell? ⟨g, 0, none⟩ = some (.slice (some ⟨b, o, none⟩) l.length c) := hx2.cell 0
   have e1 : (w.setCell ⟨g, 1, none⟩ (.int .i64 ((k : Int) + 1))).cell? ⟨g, 1, none⟩ = some (.int .i64 ((k : Int) + 1)) := hx2.cell 1
   have e2 : (w.setCell ⟨g, 1, none⟩ (.int .i64 ((k : Int) + 1))).cell? ⟨b, o + k, none⟩ = some (.int .i64 (l.getD k 0)) := (World.cell?_setCell_other w _ _ _ (fun e => by injection e; omega)).trans d0
   generalize l.getD k 0 = y at *
   replace hx2 := Lib.hid hx2
   replace hx := Lib.hid hx
   replace hs := Lib.hid hs
   replace hK := Lib.hid hK
   clear hcell
   go_enter Tryz.func67, Tryz.ntmps67
   go_wp2_with fail
   go_quiet (fail)
   go_wp2_with fail
   go_quiet (fail)
   go_wp2_with fail
   go_returns
   exact ⟨rfl, ⟨hx2.out, Sees.below hs.out (poke_draw _ _ _ _ _), by omega⟩, poke_grown _ _ _ _ _⟩
 · have hke : k = l.length := by omega
   have i0 : (l.length : Int) ≤ (k : Int) := by omega
   have hK : stepK l k = k := by rw [stepK, if_neg hlt]
   rw [hK]
   have hg : l.getD k 0 = 0 := by rw [List.getD_eq_getElem?_getD, List.getElem?_eq_none (by omega)]; rfl
   rw [hg]
   replace hx := Lib.hid hx
   replace hs := Lib.hid hs
   replace hK := Lib.hid hK
   replace hg := Lib.hid hg
   replace hke := Lib.hid hke
   go_enter Tryz.func67, Tryz.ntmps67
   go_wp2_with fail
   go_quiet (fail)
   go_wp2_with fail
   go_returns
   exact ⟨rfl, ⟨hx.out, Sees.below hs.out (below_drewN (Below.refl _ _) _), hk⟩, grown_of_below (below_drewN (Below.refl _ _) _) _⟩
theorem TapeAt.drew {w : World} {g : Nat} {u : Value} {l : List Int} {k : Nat} (h : TapeAt w g u l k) : TapeAt w.drew g u l k := h.grown (bdrew w)
set_option maxRecDepth 100000 in
theorem tint_any (g : Nat) (u : Value) (l : List Int) (k : Nat) (n : Int) (w : World) (h : TapeAt w g u l k) (hn : 1 ≤ n) (hn2 : n ≤ 1048576) :
 Calls Tryz.prog 18 #[.pointer (some ⟨g, 0, none⟩), .int .i64 n] w (TapeP g u l (stepK l k) (.int .i64 (l.getD k 0 % n)) w) := by
 have hnx := Lib.hid (tnext_any g u l k w h)
 have hwi := Lib.hid (fun W => kwithin_any (l.getD k 0) n hn (by omega) W)
 generalize l.getD k 0 = y at *
 clear h
 go_enter Tryz.func18, Tryz.ntmps18
 go_wp2_with fail
 refine hnx.out.mono ?_
 rintro e w1 ⟨rfl, h1, hg1⟩
 dsimp only
 go_wp2_with fail
 refine (hwi.out w1).mono ?_
 rintro e w2 ⟨rfl, rfl⟩
 replace h1 := Lib.hid h1
 dsimp only
 go_wp2_with fail
 go_returns
 exact ⟨rfl, h1.out, hg1⟩
def nonceC (b x : Bs) : Int := if 2048 < b.length then 2 else if x.length = 32 then 0 else 3
def nonceG (b x : Bs) : Bs := if nonceC b x = 0 then sha (b ++ x) else []
def NonP (b x : Bs) (w : World) (e : Ending) (w' : World) : Prop := ∃ v, e = .returned (.tuple #[v, .int .i64 (nonceC b x)]) ∧ OwnB w' w.heap.size v (nonceG b x) ∧ Below w.heap.size w w'
theorem non_bad {b x : Bs} {c : Int} (h : nonceC b x = c) (hc : c ≠ 0) {w w' : World} {e : Ending} (he : e = .returned (.tuple #[.slice none 0 0, .int .i64 c])) (hb : Below w.heap.size w w') : NonP b x w e w' := by
 refine ⟨.slice none 0 0, by rw [h]; exact he, ?_, hb⟩
 rw [nonceG, h, if_neg hc]
 exact World.ownsRow_nil _ _ _ 1
theorem non_ok {b x : Bs} {C : Int} {G : Bs} (h : nonceC b x = C) (hg : nonceG b x = G) {w w' : World} {v : Value} (f : OwnB w' w.heap.size v G) (hb : Below w.heap.size w w') : NonP b x w (.returned (.tuple #[v, .int .i64 C])) w' :=
 ⟨v, by rw [h], by rw [hg]; exact f, hb⟩
set_option maxRecDepth 100000 in
theorem nonce_any (B B2 : Nat) (u u2 : Value) (b x : Bs) (w : World) (hu : SeesB w B u b) (hB : B ≤ w.heap.size) (hu2 : SeesB w B2 u2 x) (hB2 : B2 ≤ w.heap.size) :
 Calls Tryz.prog 116 #[u, u2] w (NonP b x w) := by
 have s1 := hu.more hB
 have s2 := hu2.more hB2
 obtain ⟨A, c, rfl, -, -⟩ := hu.mk_
 obtain ⟨A2, c2, rfl, -, -⟩ := hu2.mk_
 clear hu hu2
 by_cases h1 : 2048 < b.length
 · have hc : nonceC b x = 2 := by rw [nonceC, if_pos h1]
   have i0 : (2048 : Int) < (b.length : Int) := by omega
   replace hc := Lib.hid hc
   go_enter Tryz.func116, Tryz.ntmps116
   go_wp2_with fail
   go_returns
   exact non_bad hc.out (by decide) rfl (Below.refl _ _)
 · have i0 : ¬ (2048 : Int) < (b.length : Int) := by omega
   by_cases h2 : x.length = 32
   · have hc : nonceC b x = 0 := by rw [nonceC, if_neg h1, if_pos h2]
     have hg : Hid (nonceG b x = sha (b ++ x)) := by show _ = _; rw [nonceG, if_pos hc]
     have i1 : ((x.length : Int) != 32) = false := by simp; omega
     replace h2 := Lib.hid h2
     have hal := balloc w (.cells #[.slice A b.length c, .slice A2 x.length c2] 34)
     have hlit := seesL_lit w 34 (show SeesAll w w.heap.size [.slice A b.length c, .slice A2 x.length c2] [b, x] from ⟨s1, s2, trivial⟩) (by simp [maxLen])
     have hfl : [b, x].flatten = b ++ x := by simp
     have hbx : (b ++ x).length ≤ 1099511627776 := by rw [List.length_append]; have := h2.out; omega
     have hj := join_any _ _ _ _ hlit (Nat.le_refl _) (by rw [hfl]; exact hbx)
     rw [hfl] at hj
     generalize b ++ x = bx at *
     replace hj := Lib.hid hj
     replace hc := Lib.hid hc
     replace hbx := Lib.hid hbx
     clear s1 s2 hlit hfl
     go_enter Tryz.func116, Tryz.ntmps116
     go_wp2_with fail
     refine hj.out.mono ?_
     rintro e w1 ⟨v1, rfl, f1, hb1⟩
     have hs := Lib.hid (sum_any _ _ bx w1 f1.sees (Nat.le_refl _) hbx.out)
     obtain ⟨A3, c3, rfl, -, -⟩ := f1.sees.mk_
     have hb := Lib.hid (bgo hal hb1)
     clear hj f1 hal hb1
     dsimp only
     go_wp2_with fail
     refine hs.out.mono ?_
     rintro e w2 ⟨v2, rfl, f2, hb2⟩
     dsimp only
     go_wp2_with fail
     go_returns
     exact non_ok hc.out hg.out (f2.mono hb.out.size) (bgo hb.out hb2)
   · have hc : Hid (nonceC b x = 3) := by show _ = _; rw [nonceC, if_neg h1, if_neg h2]
     have i1 : ¬ (x.length : Int) = 32 := by omega
     clear h2
     go_enter Tryz.func116, Tryz.ntmps116
     go_wp2_with fail
     go_returns
     exact non_bad hc.out (by decide) rfl (Below.refl _ _)
set_option maxRecDepth 100000 in
theorem rnonce_any (B B2 : Nat) (u u2 : Value) (b x : Bs) (w : World) (hu : SeesB w B u b) (hB : B ≤ w.heap.size) (hu2 : SeesB w B2 u2 x) (hB2 : B2 ≤ w.heap.size) :
 Calls Tryz.prog 189 #[u, u2] w (NonP b x w) := by
 have s1 := hu.more hB
 have s2 := hu2.more hB2
 obtain ⟨A, c, rfl, -, -⟩ := hu.mk_
 obtain ⟨A2, c2, rfl, -, -⟩ := hu2.mk_
 clear hu hu2
 by_cases h1 : 2048 < b.length
 · have hc : nonceC b x = 2 := by rw [nonceC, if_pos h1]
   have i0 : (2048 : Int) < (b.length : Int) := by omega
   replace hc := Lib.hid hc
   go_enter Tryz.func189, Tryz.ntmps189
   go_wp2_with fail
   go_returns
   exact non_bad hc.out (by decide) rfl (Below.refl _ _)
 · have i0 : ¬ (2048 : Int) < (b.length : Int) := by omega
   by_cases h2 : x.length = 32
   · have hc : nonceC b x = 0 := by rw [nonceC, if_neg h1, if_pos h2]
     have hg : Hid (nonceG b x = sha (b ++ x)) := by show _ = _; rw [nonceG, if_pos hc]
     have i1 : ((x.length : Int) != 32) = false := by simp; omega
     replace h2 := Lib.hid h2
     have hal := balloc w (.cells #[.slice A b.length c, .slice A2 x.length c2] 34)
     have hlit := seesL_lit w 34 (show SeesAll w w.heap.size [.slice A b.length c, .slice A2 x.length c2] [b, x] from ⟨s1, s2, trivial⟩) (by simp [maxLen])
     have hfl : [b, x].flatten = b ++ x := by simp
     have hbx : (b ++ x).length ≤ 1099511627776 := by rw [List.length_append]; have := h2.out; omega
     have hj := rjoin_any _ _ _ _ hlit (Nat.le_refl _) (by rw [hfl]; exact hbx)
     rw [hfl] at hj
     generalize b ++ x = bx at *
     replace hj := Lib.hid hj
     replace hc := Lib.hid hc
     replace hbx := Lib.hid hbx
     clear s1 s2 hlit hfl
     go_enter Tryz.func189, Tryz.ntmps189
     go_wp2_with fail
     refine hj.out.mono ?_
     rintro e w1 ⟨v1, rfl, f1, hb1⟩
     have hs := Lib.hid (rsum_any _ _ bx w1 f1.sees (Nat.le_refl _) hbx.out)
     obtain ⟨A3, c3, rfl, -, -⟩ := f1.sees.mk_
     have hb := Lib.hid (bgo hal hb1)
     clear hj f1 hal hb1
     dsimp only
     go_wp2_with fail
     refine hs.out.mono ?_
     rintro e w2 ⟨v2, rfl, f2, hb2⟩
     dsimp only
     go_wp2_with fail
     go_returns
     exact non_ok hc.out hg.out (f2.mono hb.out.size) (bgo hb.out hb2)
   · have hc : Hid (nonceC b x = 3) := by show _ = _; rw [nonceC, if_neg h1, if_neg h2]
     have i1 : ¬ (x.length : Int) = 32 := by omega
     clear h2
     go_enter Tryz.func189, Tryz.ntmps189
     go_wp2_with fail
     go_returns
     exact non_bad hc.out (by decide) rfl (Below.refl _ _)
def linkS (ls : List (Bs × Bs × Bs)) : List Spec := ls.flatMap fun t => [.byt t.1, .byt t.2.1, .byt t.2.2]
theorem linkS_len (ls : List (Bs × Bs × Bs)) : (linkS ls).length = ls.length * 3 := by
 induction ls with
 | nil => rfl
 | cons a r ih => simp only [linkS, List.flatMap_cons, List.length_append, List.length_cons, List.length_nil] at *; omega
theorem linkS_get (ls : List (Bs × Bs × Bs)) : ∀ (k : Nat) (t : Bs × Bs × Bs), ls[k]? = some t → (linkS ls)[k * 3]? = some (.byt t.1) ∧ (linkS ls)[k * 3 + 1]? = some (.byt t.2.1) ∧ (linkS ls)[k * 3 + 2]? = some (.byt t.2.2) := by
 induction ls with
 | nil => intro k t h; simp at h
 | cons a r ih =>
   intro k t h
   cases k with
   | zero =>
     simp at h
     subst h
     exact ⟨rfl, rfl, rfl⟩
   | succ k =>
     rw [List.getElem?_cons_succ] at h
     obtain ⟨h1, h2, h3⟩ := ih k t h
     rw [show (k + 1) * 3 = k * 3 + 3 by omega, show k * 3 + 3 + 1 = k * 3 + 1 + 3 by omega, show k * 3 + 3 + 2 = k * 3 + 2 + 3 by omega]
     exact ⟨h1, h2, h3⟩
theorem linkS_append (a b : List (Bs × Bs × Bs)) : linkS (a ++ b) = linkS a ++ linkS b := by simp [linkS]
theorem link_at {w : World} {B n c : Nat} {A : Option Addr} {ls : List (Bs × Bs × Bs)} (h : SeesR w B (.slice A n c) 3 n (linkS ls)) (k : Nat) (t : Bs × Bs × Bs) (hk : ls[k]? = some t) :
 ∃ b o A1 c1 A2 c2 A3 c3, A = some ⟨b, o, none⟩ ∧ b < B ∧ w.cell? ⟨b, o + k * 3, none⟩ = some (.slice A1 t.1.length c1) ∧ SeesB w B (.slice A1 t.1.length c1) t.1 ∧
  w.cell? ⟨b, o + k * 3 + 1, none⟩ = some (.slice A2 t.2.1.length c2) ∧ SeesB w B (.slice A2 t.2.1.length c2) t.2.1 ∧ w.cell? ⟨b, o + k * 3 + 2, none⟩ = some (.slice A3 t.2.2.length c3) ∧ SeesB w B (.slice A3 t.2.2.length c3) t.2.2 := by
 have hl := h.1
 rw [linkS_len] at hl
 have hkl := (List.getElem?_eq_some_iff.1 hk).1
 obtain ⟨b, o, e, hb, hc⟩ := h.at_ (by omega)
 obtain ⟨g1, g2, g3⟩ := linkS_get ls k t hk
 obtain ⟨u1, d1, f1⟩ := hc _ _ g1
 obtain ⟨u2, d2, f2⟩ := hc _ _ g2
 obtain ⟨u3, d3, f3⟩ := hc _ _ g3
 have f1 : SeesB w B u1 t.1 := f1
 have f2 : SeesB w B u2 t.2.1 := f2
 have f3 : SeesB w B u3 t.2.2 := f3
 obtain ⟨A1, c1, rfl, -, -⟩ := f1.mk_
 obtain ⟨A2, c2, rfl, -, -⟩ := f2.mk_
 obtain ⟨A3, c3, rfl, -, -⟩ := f3.mk_
 exact ⟨b, o, A1, c1, A2, c2, A3, c3, e, hb, d1, f1, by rw [Nat.add_assoc]; exact d2, f2, by rw [Nat.add_assoc]; exact d3, f3⟩
def lastA (ls : List (Bs × Bs × Bs)) : Bs := match ls.getLast? with
 | none => []
 | some t => t.2.2
theorem lastA_get (ls : List (Bs × Bs × Bs)) (m : Nat) (t : Bs × Bs × Bs) (hm : ls.length = m + 1) (h : ls[m]? = some t) : lastA ls = t.2.2 := by
 rw [lastA, List.getLast?_eq_getElem?, hm, Nat.add_sub_cancel, h]
def nextC (ls : List (Bs × Bs × Bs)) (x : Bs) : Int := if 8 ≤ ls.length then 8 else nonceC (lastA ls) x
def nextG (ls : List (Bs × Bs × Bs)) (x : Bs) : Bs := if 8 ≤ ls.length then [] else nonceG (lastA ls) x
def NextP (ls : List (Bs × Bs × Bs)) (x : Bs) (w : World) (e : Ending) (w' : World) : Prop := ∃ v, e = .returned (.tuple #[v, .int .i64 (nextC ls x)]) ∧ OwnB w' w.heap.size v (nextG ls x) ∧ Below w.heap.size w w'
theorem next_bad {ls : List (Bs × Bs × Bs)} {x : Bs} (h : 8 ≤ ls.length) {w w' : World} {e : Ending} (he : e = .returned (.tuple #[.slice none 0 0, .int .i64 8])) (hb : Below w.heap.size w w') : NextP ls x w e w' := by
 refine ⟨.slice none 0 0, by rw [nextC, if_pos h]; exact he, ?_, hb⟩
 rw [nextG, if_pos h]
 exact World.ownsRow_nil _ _ _ 1
theorem next_ok {ls : List (Bs × Bs × Bs)} {x : Bs} (h : ¬ 8 ≤ ls.length) {w w' : World} {v : Value} {C : Int} {G : Bs} (hC : nonceC (lastA ls) x = C) (hG : nonceG (lastA ls) x = G) (f : OwnB w' w.heap.size v G) (hb : Below w.heap.size w w') : NextP ls x w (.returned (.tuple #[v, .int .i64 C])) w' :=
 ⟨v, by rw [nextC, if_neg h, hC], by rw [nextG, if_neg h, hG]; exact f, hb⟩
set_option maxRecDepth 100000 in
theorem rat_any (B B2 : Nat) (u u2 : Value) (ls : List (Bs × Bs × Bs)) (x : Bs) (w : World) (hu : SeesR w B u 3 ls.length (linkS ls)) (hB : B ≤ w.heap.size) (hu2 : SeesB w B2 u2 x) (hB2 : B2 ≤ w.heap.size) (h8 : ls.length ≤ 8) (i : Nat) (hi : i ≤ ls.length) :
 Calls Tryz.prog 128 #[u, .int .i64 (i : Int), u2] w (NonP (lastA (ls.take i)) x w) := by
 obtain ⟨A, c, rfl, hc1, hc2⟩ := hu.mk_
 have hno := Lib.hid (fun v a (h : SeesB w B v a) => rnonce_any B B2 v u2 a x w h hB hu2 hB2)
 obtain ⟨A2, c2, rfl, -, -⟩ := hu2.mk_
 rcases Nat.eq_zero_or_pos i with h0 | h0
 · subst h0
   have hn := Lib.hid (hno.out (.slice none 0 0) [] (SeesB.nil _ _))
   rw [show lastA (ls.take 0) = [] from rfl]
   clear hno hu2 hu
   go_enter Tryz.func128, Tryz.ntmps128
   go_wp2_with fail
   refine hn.out.mono ?_
   rintro e w2 ⟨v2, rfl, f2, hb2⟩
   generalize hC : nonceC [] x = C at *
   replace hC := Lib.hid hC
   dsimp only
   go_wp2_with fail
   go_returns
   exact non_ok hC.out rfl f2 hb2
 · obtain ⟨m, rfl⟩ : ∃ m, i = m + 1 := ⟨i - 1, by omega⟩
   obtain ⟨t, ht⟩ : ∃ t, ls[m]? = some t := ⟨ls[m]'(by omega), List.getElem?_eq_getElem (by omega)⟩
   obtain ⟨b, o, A1, c1, A4, c4, A3, c3, rfl, hb, -, -, -, -, x2, s3⟩ := link_at hu m t ht
   have hl := lastA_get (ls.take (m + 1)) m t (by rw [List.length_take]; omega) (by rw [List.getElem?_take, if_pos (by omega)]; exact ht)
   have i0 : ¬ ((m + 1 : Nat) : Int) = 0 := by omega
   have i1 : ((m + 1 : Nat) : Int) - 1 = (m : Int) := by omega
   have i2 : (m : Int) < (ls.length : Int) := by omega
   rw [hl]
   generalize t.2.2 = a at *
   have hn := Lib.hid (hno.out _ a s3)
   generalize lastA (ls.take (m + 1)) = la at *
   replace hl := Lib.hid hl
   replace ht := Lib.hid ht
   clear hno hu2 hu s3 hc1 hc2
   have i3 : (((m + 1 : Nat) : Int) == 0) = false := by rw [beq_eq_false_iff_ne]; omega
   generalize hi1 : ((m + 1 : Nat) : Int) = I at *
   replace hi1 := Lib.hid hi1
   have i4 : IntKind.i64.wrap (I - 1) = (m : Int) := by rw [i1, IntKind.wrap_i64]; have := hi1.out; omega
   have i5 : 1 ≤ I ∧ I ≤ 8 := by have := hi1.out; omega
   obtain ⟨i5, i6⟩ := i5
   go_enter Tryz.func128, Tryz.ntmps128
   go_wp2_with fail
   refine hn.out.mono ?_
   rintro e w2 ⟨v2, rfl, f2, hb2⟩
   generalize hC : nonceC a x = C at *
   replace hC := Lib.hid hC
   dsimp only
   go_wp2_with fail
   go_returns
   exact non_ok hC.out rfl f2 hb2
set_option maxRecDepth 100000 in
theorem rnext_any (B B2 : Nat) (u u2 : Value) (ls : List (Bs × Bs × Bs)) (x : Bs) (w : World) (hu : SeesR w B u 3 ls.length (linkS ls)) (hB : B ≤ w.heap.size) (hu2 : SeesB w B2 u2 x) (hB2 : B2 ≤ w.heap.size) :
 Calls Tryz.prog 62 #[u, u2] w (NextP ls x w) := by
 by_cases h8 : 8 ≤ ls.length
 · obtain ⟨A, c, rfl, hc1, hc2⟩ := hu.mk_
   obtain ⟨A2, c2, rfl, -, -⟩ := hu2.mk_
   clear hu hu2
   have i0 : (8 : Int) ≤ (ls.length : Int) := by omega
   go_enter Tryz.func62, Tryz.ntmps62
   go_wp2_with fail
   go_returns
   exact next_bad h8 rfl (Below.refl _ _)
 · have hat := rat_any B B2 u u2 ls x w hu hB hu2 hB2 (by omega) ls.length (Nat.le_refl _)
   rw [List.take_of_length_le (Nat.le_refl _)] at hat
   replace hat := Lib.hid hat
   obtain ⟨A, c, rfl, hc1, hc2⟩ := hu.mk_
   obtain ⟨A2, c2, rfl, -, -⟩ := hu2.mk_
   clear hu hu2
   have i0 : ¬ (8 : Int) ≤ (ls.length : Int) := by omega
   go_enter Tryz.func62, Tryz.ntmps62
   go_wp2_with fail
   refine hat.out.mono ?_
   rintro e w2 ⟨v2, rfl, f2, hb2⟩
   generalize hC : nonceC (lastA ls) x = C at *
   replace hC := Lib.hid hC
   dsimp only
   go_wp2_with fail
   go_returns
   exact next_ok h8 hC.out rfl f2 hb2
abbrev LinkG := Bs × Bs × Bs
def linkT (ls : List LinkG) (i : Nat) : LinkG := ls.getD i ([], [], [])
def linkN (ls : List LinkG) (i : Nat) : Bs := nonceG (lastA (ls.take i)) (linkT ls i).2.1
def linkC (ls : List LinkG) (i : Nat) : Int :=
 if nonceC (lastA (ls.take i)) (linkT ls i).2.1 = 0 then dverC (linkT ls i).1 (linkN ls i) (linkT ls i).2.2 else nonceC (lastA (ls.take i)) (linkT ls i).2.1
def linkV (ls : List LinkG) (i : Nat) : Int × Int := (dverLo (linkT ls i).1 (linkN ls i) (linkT ls i).2.2, dverHi (linkT ls i).1 (linkN ls i) (linkT ls i).2.2)
def firstC (ls : List LinkG) : Nat → Int
 | 0 => 0
 | k + 1 => if firstC ls k = 0 then linkC ls k else firstC ls k
def cverC (ls : List LinkG) : Int := if 8 < ls.length then 8 else firstC ls ls.length
def cverK (ls : List LinkG) (k : Nat) : List (Int × Int) := (List.range k).map (linkV ls)
def cverV (ls : List LinkG) : List (Int × Int) := if cverC ls = 0 then cverK ls ls.length else []
def spanS (vs : List (Int × Int)) : List Spec := vs.flatMap fun v => [.val (.int .i64 v.1), .val (.int .i64 v.2)]
theorem spanS_len (vs : List (Int × Int)) : (spanS vs).length = vs.length * 2 := by
 induction vs with
 | nil => rfl
 | cons a r ih => simp only [spanS, List.flatMap_cons, List.length_append, List.length_cons, List.length_nil] at *; omega
theorem cverK_len (ls : List LinkG) (k : Nat) : (cverK ls k).length = k := by simp [cverK]
theorem first_ok (ls : List LinkG) (k : Nat) (h : firstC ls k = 0) : firstC ls (k + 1) = linkC ls k := by rw [firstC, if_pos h]
theorem first_bad (ls : List LinkG) (k n : Nat) (h : firstC ls k = 0) (hc : linkC ls k ≠ 0) (hn : k < n) : firstC ls n = linkC ls k := by
 induction n with
 | zero => omega
 | succ n ih =>
   rw [firstC]
   by_cases e : k = n
   · subst e
     rw [if_pos h]
   · rw [ih (by omega), if_neg hc]
def CVerP (ls : List LinkG) (w : World) (e : Ending) (w' : World) : Prop :=
 ∃ v, e = .returned (.tuple #[v, .int .i64 (cverC ls)]) ∧ SeesR w' w'.heap.size v 2 (cverV ls).length (spanS (cverV ls)) ∧ Below w.heap.size w w'
theorem cver_bad {ls : List LinkG} {c : Int} (h : cverC ls = c) (hc : c ≠ 0) {w w' : World} (hb : Below w.heap.size w w') : CVerP ls w (.returned (.tuple #[.slice none 0 0, .int .i64 c])) w' := by
 refine ⟨_, by rw [h], ?_, hb⟩
 rw [cverV, if_neg (by rw [h]; exact hc)]
 exact SeesR.nil _ _ _
theorem cver_ok {ls : List LinkG} (h : cverC ls = 0) {w w' : World} {v : Value} (hs : SeesR w' w'.heap.size v 2 ls.length (spanS (cverK ls ls.length))) (hb : Below w.heap.size w w') : CVerP ls w (.returned (.tuple #[v, .int .i64 0])) w' := by
 refine ⟨v, by rw [h], ?_, hb⟩
 rw [cverV, if_pos h, cverK_len]
 exact hs
theorem span_info : (Tryz.prog.info? 23).map (fun i => (i.zero, i.size, i.bytes)) = some (some (.agg #[.int .i64 0, .int .i64 0]), 2, 16) := by kernel_rfl
theorem TapeAt.row {w w' : World} {g k : Nat} {r : Option Nat} {u : Value} {l : List Int} (h : TapeAt w g u l k) (hg : w.grownBy w' r) (hne : ∀ j, r = some j → g < j) : TapeAt w' g u l k := by
 obtain ⟨h1, h2, h3⟩ := h
 refine ⟨(hg.block g h1.lt (fun e => by have := hne g e.symm; omega)).trans h1, Sees.below h2 ⟨hg.os, hg.tape, hg.output, hg.size, fun k hk => hg.block k (by have := h1.lt; omega) (fun e => by have := hne k e.symm; omega)⟩, h3⟩
theorem row_tape {w w' : World} {g base size n : Nat} {T : TypeId} {v : Value} {xs : List Value} (h : w.ownsRow base T size v n xs) (hg : w.grownBy w' (some g)) (hb : g < base) : w'.ownsRow base T size v n xs :=
 h.kept hg (.inr fun e => by have := (h.lt g e).1; omega)
theorem tnew_any (u : Value) (l : List Int) (w : World) (h : SeesT w w.heap.size u l) :
 Calls Tryz.prog 17 #[u] w fun e w' => e = .returned (.pointer (some ⟨w.heap.size, 0, none⟩)) ∧ TapeAt w' w.heap.size u l 0 ∧ Below w.heap.size w w' ∧ w.heap.size < w'.heap.size := by
 obtain ⟨A, c, rfl, -, -⟩ := h.mk_
 have hal := balloc w (.cells #[.slice A l.length c, .int .i64 0] 108)
 have hx := Lib.hid (Box.new w 108 [.slice A l.length c, .int .i64 0])
 have h2 := Lib.hid (Sees.below h hal)
 replace hal := Lib.hid hal
 clear h
 go_enter Tryz.func17, Tryz.ntmps17
 go_wp2_with fail
 go_returns
 exact ⟨rfl, ⟨hx.out, h2.out, Nat.zero_le _⟩, hal.out, hx.out.lt⟩
theorem sepB {a b : Option Nat} (h : ∀ j, b = some j → a ≠ some j) : a = none ∨ a ≠ b := by
 cases a with
 | none => exact .inl rfl
 | some x => exact .inr (fun e => h x e.symm rfl)
theorem small_vS {lo hi : Int} (h : -50 ≤ lo ∧ lo ≤ 50 ∧ lo ≤ hi ∧ hi ≤ 100) : vS lo hi = true := by
 unfold vS
 rw [decide_eq_true_iff]
 omega
theorem wide_vS : vS (-1099511627776) 1099511627776 = true := by
 unfold vS
 rw [decide_eq_true_iff]
 omega
theorem small_inS {lo hi : Int} (h : -50 ≤ lo ∧ lo ≤ 50 ∧ lo ≤ hi ∧ hi ≤ 100) : inS lo hi (-1099511627776) 1099511627776 = true := by
 unfold inS
 rw [small_vS h, wide_vS, decide_eq_true (by omega), decide_eq_true (by omega)]
 rfl
section
variable {P : Program} {ops : Array Oper} {Q : Exit → Act → World → Prop} {md : Region.Mode} {S : World → Prop} {s : Nat}
def TillJ (S : World → Prop) (s : Nat) (listed : Array Bool) (w : World) : Prop := listed.getD s true = false → S w
def wpAnyJ (P : Program) (md : Region.Mode) (ops : Array Oper) (Q : Exit → Act → World → Prop) (S : World → Prop) (s : Nat) : Nat → Array Bool → Act → World → Prop
 | 0, listed, a, w => Region.ready md ops listed = [] ∧ Q .normal a w
 | fuel + 1, listed, a, w =>
   (Region.ready md ops listed = [] → Q .normal a w) ∧
   ∀ i ∈ Region.ready md ops listed, wpOp P ops Q i (fun a' w' => TillJ S s (listed.setIfInBounds i true) w' ∧ wpAnyJ P md ops Q S s fuel (listed.setIfInBounds i true) a' w') a w
theorem wpAny_of_J : ∀ (fuel : Nat) (listed : Array Bool) (a : Act) (w : World), wpAnyJ P md ops Q S s fuel listed a w → wpAny P md ops Q fuel listed a w
 | 0, _, _, _, h => h
 | fuel + 1, _, _, _, h => ⟨h.1, fun i hi => wpOp_mono (fun a' w' h' => wpAny_of_J fuel _ a' w' h'.2) (h.2 i hi)⟩
theorem wpAnyJ_first {i : Nat} {oi : Oper} {v : Value} (hi : ops[i]? = some oi) (hsel : ∀ (j : Nat) (o : Oper) cs b, ops[j]? = some o → o.op ≠ .select cs b)
 (hQ : ∀ c a w, Q (.panic c) (a.put oi.dst v) w → Q (.panic c) a w) (hs : s ≠ i) {os : Oper} (ho : ops[s]? = some os) (hw : ∃ e ∈ os.after, Region.binds md e = true ∧ e.on = i) :
 ∀ (fuel : Nat) (listed : Array Bool) (a : Act) (w : World),
  (∀ j oj, ops[j]? = some oj → j ≠ i → listed.getD j true = false → (∀ e ∈ oj.after, Region.binds md e = true → e.on ≠ i) → oi.apart ops oj = true) →
  i ∈ Region.ready md ops listed → YieldsIf P ops S oi v a → listed.getD s true = false → S w →
  wpAnyJ P md ops Q S s fuel (listed.setIfInBounds i true) (a.put oi.dst v) w → wpAnyJ P md ops Q S s (fuel + 1) listed a w := by
 intro fuel
 induction fuel with
 | zero =>
   intro listed a w _ hr hy hu hS H
   refine ⟨fun h => (by rw [h] at hr; cases hr), fun j hj => ?_⟩
   by_cases hji : j = i
   · subst hji; exact hy.wpOp hi hS ⟨fun _ => hS, H⟩
   · have := ready_mono hj hji
     rw [H.1] at this
     cases this
 | succ fuel ih =>
   intro listed a w hfree hr hy hu hS H
   refine ⟨fun h => (by rw [h] at hr; cases hr), fun j hj => ?_⟩
   by_cases hji : j = i
   · subst hji; exact hy.wpOp hi hS ⟨fun _ => hS, H⟩
   · have h1 := H.2 j (ready_mono hj hji)
     obtain ⟨hjun, oj, hoj, hall⟩ := mem_ready.1 hj
     have hnot : ∀ e ∈ oj.after, Region.binds md e = true → e.on ≠ i := fun e he hb heq => by
      have h1 := hall e he hb
      have h0 := (mem_ready.1 hr).1
      rw [heq] at h1
      rcases Nat.lt_or_ge i listed.size with h' | h'
      · simp [h'] at h0 h1; rw [h0] at h1; cases h1
      · simp [Array.getElem?_eq_none h'] at h1
     have hjs : j ≠ s := fun e => by
      subst e
      rw [hoj] at ho
      cases ho
      obtain ⟨e, he, hb, heq⟩ := hw
      exact hnot e he hb heq
     have hu2 : (listed.setIfInBounds j true).getD s true = false := by rw [getD_set_ne true hjs]; exact hu
     have hu3 : ((listed.setIfInBounds i true).setIfInBounds j true).getD s true = false := by rw [getD_set_ne true hjs, getD_set_ne true (Ne.symm hs)]; exact hu
     have h2 := wpOp_putIf hoj (hfree j oj hoj hji hjun hnot) (fun cs b => hsel i oi cs b hi) (fun cs b => hsel j oj cs b hoj) hQ hy h1
     have hfree' : ∀ k ok, ops[k]? = some ok → k ≠ i → (listed.setIfInBounds j true).getD k true = false →
      (∀ e ∈ ok.after, Region.binds md e = true → e.on ≠ i) → oi.apart ops ok = true := fun k ok hk hki hun hno => by
      refine hfree k ok hk hki ?_ hno
      by_cases hjk : j = k
      · subst hjk; exact hjun
      · rw [getD_set_ne true hjk] at hun; exact hun
     refine wpOp_mono (fun a' w' h3 => ⟨fun _ => h3.2.1 hu3, ih (listed.setIfInBounds j true) a' w' hfree' (ready_mono hr (Ne.symm hji)) h3.1 hu2 (h3.2.1 hu3) ?_⟩) h2
     rw [Array.setIfInBounds_comm _ _ hji]
     exact h3.2.2
theorem wpAnyJ_take {i : Nat} {oi os : Oper} {v : Value} {fuel : Nat} {listed : Array Bool} {a : Act} {w : World} (hi : ops[i]? = some oi)
 (hsl : Region.noSelect ops = true) (hf : Region.free md ops listed i = true) (hr : (Region.ready md ops listed).contains i = true)
 (hQ : ∀ c a w, Q (.panic c) (a.put oi.dst v) w → Q (.panic c) a w) (hs : Nat.beq s i = false) (ho : ops[s]? = some os) (hw : os.after.toList.any (fun e => Region.binds md e && Nat.beq e.on i) = true)
 (hu : listed.getD s true = false) (hy : YieldsIf P ops S oi v a) (hS : TillJ S s listed w)
 (h : wpAnyJ P md ops Q S s fuel (listed.setIfInBounds i true) (a.put oi.dst v) w) : wpAnyJ P md ops Q S s (fuel + 1) listed a w := by
 refine wpAnyJ_first hi (Region.noSelect_spec hsl) hQ (Nat.ne_of_beq_eq_false hs) ho ?_ fuel listed a w (Region.free_spec hi hf) (by simpa using hr) hy hu (hS hu) h
 obtain ⟨e, he, h2⟩ := List.any_eq_true.1 hw
 simp only [Bool.and_eq_true] at h2
 exact ⟨e, by simpa using he, h2.1, Nat.eq_of_beq_eq_true h2.2⟩
theorem wpAnyJ_first0 {i : Nat} {oi : Oper} {v : Value} (hi : ops[i]? = some oi) (hsel : ∀ (j : Nat) (o : Oper) cs b, ops[j]? = some o → o.op ≠ .select cs b)
 (hQ : ∀ c a w, Q (.panic c) (a.put oi.dst v) w → Q (.panic c) a w) (hs : s ≠ i) :
 ∀ (fuel : Nat) (listed : Array Bool) (a : Act) (w : World),
  (∀ j oj, ops[j]? = some oj → j ≠ i → listed.getD j true = false → (∀ e ∈ oj.after, Region.binds md e = true → e.on ≠ i) → oi.apart ops oj = true) →
  i ∈ Region.ready md ops listed → YieldsIf P ops (fun _ => True) oi v a → TillJ S s listed w →
  wpAnyJ P md ops Q S s fuel (listed.setIfInBounds i true) (a.put oi.dst v) w → wpAnyJ P md ops Q S s (fuel + 1) listed a w := by
 intro fuel
 induction fuel with
 | zero =>
   intro listed a w _ hr hy hS H
   refine ⟨fun h => (by rw [h] at hr; cases hr), fun j hj => ?_⟩
   by_cases hji : j = i
   · subst hji; exact hy.wpOp hi trivial ⟨fun h => hS (by rw [getD_set_ne true (Ne.symm hs)] at h; exact h), H⟩
   · have := ready_mono hj hji
     rw [H.1] at this
     cases this
 | succ fuel ih =>
   intro listed a w hfree hr hy hS H
   refine ⟨fun h => (by rw [h] at hr; cases hr), fun j hj => ?_⟩
   by_cases hji : j = i
   · subst hji; exact hy.wpOp hi trivial ⟨fun h => hS (by rw [getD_set_ne true (Ne.symm hs)] at h; exact h), H⟩
   · have h1 := H.2 j (ready_mono hj hji)
     obtain ⟨hjun, oj, hoj, hall⟩ := mem_ready.1 hj
     have hnot : ∀ e ∈ oj.after, Region.binds md e = true → e.on ≠ i := fun e he hb heq => by
      have h1 := hall e he hb
      have h0 := (mem_ready.1 hr).1
      rw [heq] at h1
      rcases Nat.lt_or_ge i listed.size with h' | h'
      · simp [h'] at h0 h1; rw [h0] at h1; cases h1
      · simp [Array.getElem?_eq_none h'] at h1
     have h2 := wpOp_putIf hoj (hfree j oj hoj hji hjun hnot) (fun cs b => hsel i oi cs b hi) (fun cs b => hsel j oj cs b hoj) hQ hy h1
     have hfree' : ∀ k ok, ops[k]? = some ok → k ≠ i → (listed.setIfInBounds j true).getD k true = false →
      (∀ e ∈ ok.after, Region.binds md e = true → e.on ≠ i) → oi.apart ops ok = true := fun k ok hk hki hun hno => by
      refine hfree k ok hk hki ?_ hno
      by_cases hjk : j = k
      · subst hjk; exact hjun
      · rw [getD_set_ne true hjk] at hun; exact hun
     have hT : ∀ w', TillJ S s ((listed.setIfInBounds i true).setIfInBounds j true) w' → TillJ S s (listed.setIfInBounds j true) w' := fun w' h hl => h (by
      rw [Array.setIfInBounds_comm _ _ (Ne.symm hji), getD_set_ne true (Ne.symm hs)]; exact hl)
     refine wpOp_mono (fun a' w' h3 => ⟨hT w' h3.2.1, ih (listed.setIfInBounds j true) a' w' hfree' (ready_mono hr (Ne.symm hji)) h3.1 (hT w' h3.2.1) ?_⟩) h2
     rw [Array.setIfInBounds_comm _ _ hji]
     exact h3.2.2
theorem wpAnyJ_take0 {i : Nat} {oi : Oper} {v : Value} {fuel : Nat} {listed : Array Bool} {a : Act} {w : World} (hi : ops[i]? = some oi)
 (hsl : Region.noSelect ops = true) (hf : Region.free md ops listed i = true) (hr : (Region.ready md ops listed).contains i = true)
 (hQ : ∀ c a w, Q (.panic c) (a.put oi.dst v) w → Q (.panic c) a w) (hs : Nat.beq s i = false) (hy : YieldsIf P ops (fun _ => True) oi v a) (hS : TillJ S s listed w)
 (h : wpAnyJ P md ops Q S s fuel (listed.setIfInBounds i true) (a.put oi.dst v) w) : wpAnyJ P md ops Q S s (fuel + 1) listed a w :=
 wpAnyJ_first0 hi (Region.noSelect_spec hsl) hQ (Nat.ne_of_beq_eq_false hs) fuel listed a w (Region.free_spec hi hf) (by simpa using hr) hy hS h
theorem wpAnyJ_done {listed : Array Bool} {a : Act} {w : World} (hr : Region.ready md ops listed = []) (h : Q .normal a w) :
 ∀ fuel, wpAnyJ P md ops Q S s fuel listed a w
 | 0 => ⟨hr, h⟩
 | _ + 1 => ⟨fun _ => h, by rw [hr]; simp⟩
def AllReadyJ (P : Program) (md : Region.Mode) (ops : Array Oper) (Q : Exit → Act → World → Prop) (S : World → Prop) (s fuel : Nat) (listed : Array Bool) (a : Act) (w : World) (rs : List Nat) : Prop :=
 ∀ i ∈ rs, wpOp P ops Q i (fun a' w' => TillJ S s (listed.setIfInBounds i true) w' ∧ wpAnyJ P md ops Q S s fuel (listed.setIfInBounds i true) a' w') a w
theorem AllReadyJ.nil {fuel : Nat} {listed : Array Bool} {a : Act} {w : World} : AllReadyJ P md ops Q S s fuel listed a w [] := fun _ h => by cases h
theorem AllReadyJ.cons {fuel : Nat} {listed : Array Bool} {a : Act} {w : World} {i : Nat} {o : Oper} {rs : List Nat} (ho : ops[i]? = some o)
 (h : ∀ K' : Act → World → Prop, Shut (∀ a w, TillJ S s (listed.setIfInBounds i true) w → (TillJ S s (listed.setIfInBounds i true) w → wpAnyJ P md ops Q S s fuel (listed.setIfInBounds i true) a w) → K' a w) → if Region.wanted o (yielded ops a.tmps) = true then Oper.wp P o a w K' Q else K' (a.put o.dst undef) w)
 (hs : AllReadyJ P md ops Q S s fuel listed a w rs) : AllReadyJ P md ops Q S s fuel listed a w (i :: rs) := fun j hj => by
 rcases List.mem_cons.1 hj with rfl | hj
 · exact wpOp_step ho (fun K' hK => h K' (fun a w hS hW => hK a w ⟨hS, hW hS⟩))
 · exact hs j hj
theorem wpAnyJ_ready {rs : List Nat} {fuel : Nat} {listed : Array Bool} {a : Act} {w : World} (hr : Region.ready md ops listed = rs) (hne : rs ≠ [])
 (h : AllReadyJ P md ops Q S s fuel listed a w rs) : wpAnyJ P md ops Q S s (fuel + 1) listed a w := ⟨fun h0 => absurd (hr ▸ h0) hne, hr ▸ h⟩
theorem wp_region_J {id : Nat} {a : Act} {w : World} (S : World → Prop) (s : Nat) (hm : P.follows .mixedOrders = true) (hS : S w.drew)
 (h : TillJ S s (Array.replicate ops.size false) w.drew → wpAnyJ P .any ops Q S s ops.size (Array.replicate ops.size false) a w.drew) : (Code.region id ops true).wp P Q a w :=
 wp_region_any hm (wpAny_of_J _ _ _ _ (h fun _ => hS))
end
structure SpI (u : Value) (l : List Int) (g base : Nat) (w0 : World) (s : Value) (n : Nat) (xs : List Value) (o : Value) (m : Nat) (ys : List Value) (k : Nat) (W : World) : Prop where
 row : W.ownsRow base 23 2 s n xs
 who : W.ownsRow base 3 1 o m ys
 sep : ∀ j, s.ownBlock = some j → o.ownBlock ≠ some j
 tape_ : TapeAt W g u l k
 old : Below g w0 W
 size : base ≤ W.heap.size
section
variable {u : Value} {l : List Int} {g base : Nat} {w0 W W' : World} {s s' o o' : Value} {n n' m m' k k' : Nat} {xs xs' ys ys' : List Value}
theorem SpI.below (h : SpI u l g base w0 s n xs o m ys k W) (hb : Below W.heap.size W W') (hg : g < base) : SpI u l g base w0 s n xs o m ys k W' :=
 ⟨own_below h.row hb, own_below h.who hb, h.sep, h.tape_.grown hb, h.old.trans (hb.mono (by have := h.size; omega)), Nat.le_trans h.size hb.size⟩
theorem SpI.tape (h : SpI u l g base w0 s n xs o m ys k W) (hg : g < base) (ht : TapeAt W' g u l k') (hr : W.grownBy W' (some g)) : SpI u l g base w0 s n xs o m ys k' W' :=
 ⟨row_tape h.row hr hg, row_tape h.who hr hg, h.sep, ht, h.old.trans ⟨hr.os, hr.tape, hr.output, hr.size, fun k hk => hr.block k (by have := h.size; omega) (fun e => by have := Option.some.inj e; omega)⟩, Nat.le_trans h.size hr.size⟩
theorem SpI.poke {G j : Nat} {v : Value} (h : SpI u l g base w0 s n xs o m ys k W) (hg : g < base) (hG : base ≤ G) (hs : ∀ j, s.ownBlock = some j → j < G) (ho : ∀ j, o.ownBlock = some j → j < G) : SpI u l g base w0 s n xs o m ys k (W.setCell ⟨G, j, none⟩ v) := by
 have hr := setCell_grown W G j v
 exact ⟨h.row.kept hr (.inr fun e => by have := hs G e; omega), h.who.kept hr (.inr fun e => by have := ho G e; omega), h.sep, h.tape_.row hr (fun j hj => by have := Option.some.inj hj; omega), h.old.trans ⟨hr.os, hr.tape, hr.output, hr.size, fun k hk => hr.block k (by have := h.size; omega) (fun e => by have := Option.some.inj e; omega)⟩, Nat.le_trans h.size hr.size⟩
theorem SpI.app1 (h : SpI u l g base w0 s n xs o m ys k W) (hg : g < base) (hrow : W'.ownsRow base 23 2 s' n' xs') (hr : W.grownBy W' s.ownBlock) (hd : s'.ownBlock = s.ownBlock ∨ s'.ownBlock = some W.heap.size) : SpI u l g base w0 s' n' xs' o m ys k W' :=
 ⟨hrow, h.who.kept hr (sepB h.sep), fun j hj e => by
  rcases hd with d | d
  · exact h.sep j (d ▸ hj) e
  · have h9 := (h.who.lt j e).2
    rw [hj] at d
    have := Option.some.inj d
    omega,
  h.tape_.row hr (fun j hj => by have := (h.row.lt j hj).1; omega),
  h.old.trans ⟨hr.os, hr.tape, hr.output, hr.size, fun k hk => hr.block k (by have := h.size; omega) (fun e => by have := (h.row.lt k e.symm).1; omega)⟩, Nat.le_trans h.size hr.size⟩
theorem SpI.app2 (h : SpI u l g base w0 s n xs o m ys k W) (hg : g < base) (hrow : W'.ownsRow base 3 1 o' m' ys') (hr : W.grownBy W' o.ownBlock) (hd : o'.ownBlock = o.ownBlock ∨ o'.ownBlock = some W.heap.size) : SpI u l g base w0 s n xs o' m' ys' k W' :=
 ⟨h.row.kept hr (sepB fun j hj e => h.sep j e hj), hrow, fun j hj e => by
  rcases hd with d | d
  · exact h.sep j hj (d ▸ e)
  · have h9 := (h.row.lt j hj).2
    rw [e] at d
    have := Option.some.inj d
    omega,
  h.tape_.row hr (fun j hj => by have := (h.who.lt j hj).1; omega),
  h.old.trans ⟨hr.os, hr.tape, hr.output, hr.size, fun k hk => hr.block k (by have := h.size; omega) (fun e => by have := (h.who.lt k e.symm).1; omega)⟩, Nat.le_trans h.size hr.size⟩
end
theorem box_set2b {W : World} {g : Nat} {T : TypeId} {a b : Value} (h : Box W g T [a, b]) (v : Value) : Box (W.setCell ⟨g, 1, none⟩ v) g T [a, v] := by
 have := h.set 1 v
 simpa only [List.set_cons_zero, List.set_cons_succ] using this
def hR (l : List Int) (a : Int) (p : Nat) : (Int × Nat) × (Int × Int) × Int :=
 if l.getD (stepK l (stepK l (stepK l p))) 0 % 2 = 1 then
  ((a + l.getD p 0 % 10, stepK l (stepK l (stepK l (stepK l (stepK l (stepK l p)))))),
   (l.getD (stepK l (stepK l (stepK l (stepK l p)))) 0 % 40, l.getD (stepK l (stepK l (stepK l (stepK l p)))) 0 % 40 + l.getD (stepK l (stepK l (stepK l (stepK l (stepK l p))))) 0 % 3), 1)
 else ((a + l.getD p 0 % 10, stepK l (stepK l (stepK l (stepK l p)))), (a + l.getD p 0 % 10 - l.getD (stepK l p) 0 % 8, a + l.getD p 0 % 10 + l.getD (stepK l (stepK l p)) 0 % 8), 0)
def hSt (l : List Int) : Nat → Int × Nat
 | 0 => (0, stepK l 0)
 | i + 1 => (hR l (hSt l i).1 (hSt l i).2).1
def hSp (l : List Int) (i : Nat) : Int × Int := (hR l (hSt l i).1 (hSt l i).2).2.1
def hWh (l : List Int) (i : Nat) : Int := (hR l (hSt l i).1 (hSt l i).2).2.2
def hN (l : List Int) : Nat := (2 + l.getD 0 0 % 3).toNat
def hF (l : List Int) (n : Nat) : List Value := (List.range n).flatMap fun j => [.int .i64 (hSp l j).1, .int .i64 (hSp l j).2]
def hWF (l : List Int) (n : Nat) : List Value := (List.range n).map fun j => .int .i64 (hWh l j)
theorem hF_next (l : List Int) (n : Nat) : hF l (n + 1) = hF l n ++ [.int .i64 (hSp l n).1, .int .i64 (hSp l n).2] := by
 rw [hF, hF, List.range_succ, List.flatMap_append]; rfl
theorem hWF_next (l : List Int) (n : Nat) : hWF l (n + 1) = hWF l n ++ [.int .i64 (hWh l n)] := by
 rw [hWF, hWF, List.range_succ, List.map_append]; rfl
theorem hWF_get (l : List Int) (n j : Nat) (h : j < n) : (hWF l n)[j]? = some (.int .i64 (hWh l j)) := by
 unfold hWF
 rw [List.getElem?_map, List.getElem?_range h]
 rfl
theorem hF_get (l : List Int) (n j : Nat) (h : j < n) : (hF l n)[j * 2]? = some (.int .i64 (hSp l j).1) ∧ (hF l n)[j * 2 + 1]? = some (.int .i64 (hSp l j).2) := by
 have hlen : ∀ m, (hF l m).length = m * 2 := by
  intro m
  induction m with
  | zero => rfl
  | succ m ih => rw [hF_next, List.length_append, ih]; simp; omega
 induction n with
 | zero => omega
 | succ n ih =>
   rw [hF_next]
   by_cases e : j = n
   · subst e
     rw [List.getElem?_append_right (by rw [hlen]; omega), List.getElem?_append_right (by rw [hlen]; omega), hlen]
     rw [show j * 2 - j * 2 = 0 by omega, show j * 2 + 1 - j * 2 = 1 by omega]
     exact ⟨rfl, rfl⟩
   · rw [List.getElem?_append_left (by rw [hlen]; omega), List.getElem?_append_left (by rw [hlen]; omega)]
     exact ih (by omega)
theorem md (x m : Int) (h : 0 < m) : 0 ≤ x % m ∧ x % m < m := ⟨Int.emod_nonneg x (by omega), Int.emod_lt_of_pos x h⟩
theorem hR_spec (l : List Int) (a : Int) (p : Nat) : a ≤ (hR l a p).1.1 ∧ (hR l a p).1.1 ≤ a + 9 ∧ ((hR l a p).2.2 = 1 ∧ 0 ≤ (hR l a p).2.1.1 ∧ (hR l a p).2.1.1 < 40 ∧ (hR l a p).2.1.1 ≤ (hR l a p).2.1.2 ∧ (hR l a p).2.1.2 < 43 ∨
 (hR l a p).2.2 = 0 ∧ (hR l a p).2.1.1 ≤ (hR l a p).1.1 ∧ (hR l a p).1.1 ≤ (hR l a p).2.1.2 ∧ (hR l a p).1.1 - 8 ≤ (hR l a p).2.1.1 ∧ (hR l a p).2.1.2 ≤ (hR l a p).1.1 + 8) := by
 unfold hR
 have h1 := md (l.getD p 0) 10 (by omega)
 split
 · dsimp only
   have h2 := md (l.getD (stepK l (stepK l (stepK l (stepK l p)))) 0) 40 (by omega)
   have h3 := md (l.getD (stepK l (stepK l (stepK l (stepK l (stepK l p))))) 0) 3 (by omega)
   refine ⟨by omega, by omega, .inl ⟨rfl, h2.1, h2.2, by omega, by omega⟩⟩
 · dsimp only
   have h2 := md (l.getD (stepK l p) 0) 8 (by omega)
   have h3 := md (l.getD (stepK l (stepK l p)) 0) 8 (by omega)
   refine ⟨by omega, by omega, .inr ⟨rfl, by omega, by omega, by omega, by omega⟩⟩
theorem hSt_le (l : List Int) (i : Nat) : 0 ≤ (hSt l i).1 ∧ (hSt l i).1 ≤ 9 * (i : Int) := by
 induction i with
 | zero => exact ⟨Int.le_refl _, Int.le_refl _⟩
 | succ i ih =>
   have := hR_spec l (hSt l i).1 (hSt l i).2
   show 0 ≤ (hR l (hSt l i).1 (hSt l i).2).1.1 ∧ (hR l (hSt l i).1 (hSt l i).2).1.1 ≤ _
   omega
theorem hSt_mono (l : List Int) {i j : Nat} (h : i ≤ j) : (hSt l i).1 ≤ (hSt l j).1 := by
 induction j with
 | zero => rw [show i = 0 by omega]; exact Int.le_refl _
 | succ j ih =>
   rcases Nat.lt_or_ge j i with h1 | h1
   · rw [show i = j + 1 by omega]; exact Int.le_refl _
   · have := ih h1
     have := (hR_spec l (hSt l j).1 (hSt l j).2).1
     show _ ≤ (hR l (hSt l j).1 (hSt l j).2).1.1
     omega
theorem hWh_two (l : List Int) (i : Nat) : hWh l i = 0 ∨ hWh l i = 1 := by
 rcases (hR_spec l (hSt l i).1 (hSt l i).2).2.2 with ⟨h, -⟩ | ⟨h, -⟩
 · exact .inr h
 · exact .inl h
theorem hSp_small (l : List Int) (i : Nat) (hi : i < 4) : -50 ≤ (hSp l i).1 ∧ (hSp l i).1 ≤ 50 ∧ (hSp l i).1 ≤ (hSp l i).2 ∧ (hSp l i).2 ≤ 100 := by
 have h0 := hSt_le l i
 have h1 := hR_spec l (hSt l i).1 (hSt l i).2
 unfold hSp
 omega
theorem honest_spans (l : List Int) {i j : Nat} (h : i < j) (h1 : hWh l i = 0) (h2 : hWh l j = 0) : (hSp l i).1 ≤ (hSp l j).2 := by
 have a := hR_spec l (hSt l i).1 (hSt l i).2
 have b := hR_spec l (hSt l j).1 (hSt l j).2
 have c := hSt_mono l (i := i + 1) (j := j + 1) (by omega)
 have e1 : (hSt l (i + 1)).1 = (hR l (hSt l i).1 (hSt l i).2).1.1 := rfl
 have e2 : (hSt l (j + 1)).1 = (hR l (hSt l j).1 (hSt l j).2).1.1 := rfl
 unfold hWh at h1 h2
 unfold hSp
 omega
set_option maxRecDepth 100000 in
theorem followed_any (A : Option Addr) (n c : Nat) (w : World) : Calls Tryz.prog 120 #[.slice A n c] w fun e w' => e = .returned (.func (.func 183) #[] #[.pointer (some ⟨w.heap.size, 0, none⟩)]) ∧ w' = w.alloc (.cells #[.slice A n c] 26) := by
 go_enter Tryz.func120, Tryz.ntmps120
 go_wp2_with fail
 go_ret
 exact ⟨rfl, rfl⟩
end Go.Proofs.YtgehkgjllhkhoaaGreat
namespace Go.Proofs.YtgehkgjllhkhoaaGreat
open Go Go.RowKit Go.Shelf
set_option linter.unusedVariables false
attribute [local go_sem ↓] Go.wp_at_zero Go.wp_at_succ
attribute [local go_sem] Oper.semAt_some
def lastV (cv : Nat → Value) : Nat → Value
 | 0 => .slice none 0 0
 | m + 1 => cv (m * 3 + 2)
set_option maxRecDepth 100000 in
theorem last_at (cv : Nat → Value) (b o m c : Nat) (A : Option Addr) (w : World) (hm : m ≤ 8) (hc : 0 < m → A = some ⟨b, o, none⟩ ∧ w.cell? ⟨b, o + ((m - 1) * 3 + 2), none⟩ = some (cv ((m - 1) * 3 + 2))) :
 Calls Tryz.prog 117 #[.slice A m c] w fun e w' => e = .returned (lastV cv m) ∧ w' = w := by
 cases m with
 | zero =>
   go_enter Tryz.func117, Tryz.ntmps117
   go_wp2_with fail
   go_returns
   exact ⟨rfl, rfl⟩
 | succ m =>
   obtain ⟨rfl, hx⟩ := hc (by omega)
   rw [Nat.add_sub_cancel, ← Nat.add_assoc] at hx
   have hl : lastV cv (m + 1) = cv (m * 3 + 2) := rfl
   rw [hl]
   generalize cv (m * 3 + 2) = v at *
   have i0 : ¬ ((m + 1 : Nat) : Int) = 0 := by omega
   have i1 : ((m + 1 : Nat) : Int) - 1 = (m : Int) := by omega
   have i2 : (m : Int) < ((m + 1 : Nat) : Int) := by omega
   generalize m + 1 = k at *
   clear hl hc
   go_enter Tryz.func117, Tryz.ntmps117
   go_wp2_with fail
   go_returns
   exact ⟨rfl, rfl⟩
theorem link_size (w : World) : (sizeOf 101).run Tryz.prog w = .ok 3 w := by kernel_rfl
def K2 (n₀ Bx : Nat) (X Y : World) : Prop := Below n₀ X Y ∧ (Bx < X.heap.size → Y.heap[Bx]? = X.heap[Bx]?)
theorem K2.trans {n₀ Bx : Nat} {X Y Z : World} (h : K2 n₀ Bx X Y) (k : K2 n₀ Bx Y Z) : K2 n₀ Bx X Z := ⟨h.1.trans k.1, fun hb => (k.2 (Nat.lt_of_lt_of_le hb h.1.size)).trans (h.2 hb)⟩
theorem K2.of_below {n₀ Bx : Nat} {X Y : World} (h : Below X.heap.size X Y) (hn : n₀ ≤ X.heap.size) : K2 n₀ Bx X Y := ⟨h.mono hn, fun hb => h.block _ hb⟩
theorem K2.cell {n₀ Bx : Nat} {X Y : World} {v : Value} (h : K2 n₀ Bx X Y) (hc : X.cell? ⟨Bx, 0, none⟩ = some v) (hb : Bx < X.heap.size) : Y.cell? ⟨Bx, 0, none⟩ = some v := (World.cell?_of_block (a := ⟨Bx, 0, none⟩) (h.2 hb)).trans hc
def finT (N k : Nat) : List (Fin N) := (List.finRange N).take k
theorem finT_next (N k : Nat) (h : k < N) : finT N (k + 1) = finT N k ++ [⟨k, h⟩] := take_one _ k _ (by rw [List.getElem?_eq_getElem (by simpa using h)]; simp)
theorem finT_len (N k : Nat) (h : k ≤ N) : (finT N k).length = k := by simp [finT]; omega
def encK (cv : Nat → Value) (k : Nat) : Array Value := #[lastV cv k, .agg #[cv (k * 3), cv (k * 3 + 1), cv (k * 3 + 2)]]
set_option maxRecDepth 100000 in
set_option maxHeartbeats 4000000 in
theorem followed1_in (n : Nat) (hn : 2 ≤ n) (l Bx n₀ b o c N : Nat) (A : Option Addr) (cv : Nat → Value) (hN : N ≤ 8) (hc : N ≤ c) (hA : 0 < N → A = some ⟨b, o, none⟩ ∧ b < n₀) (J Jx : List (Fin N) → World → Prop) (B0 : Nat) (hJ : AbidesFrom B0 J)
 (hY : ∀ pre x W, J pre W → pre.length < N → YieldAt Fence.wide (n - 1) Tryz.prog l (encK cv x.val) W fun e W' =>
  (e = .returned (.bool true) ∧ J (pre ++ [x]) W' ∧ K2 n₀ Bx W W') ∨ (e = .returned (.bool false) ∧ Jx (pre ++ [x]) W'))
 (W : World) (hn0 : n₀ ≤ W.heap.size) (hbx : Bx < W.heap.size) (hcell : ∀ j, j < N * 3 → W.cell? ⟨b, o + j, none⟩ = some (cv j)) (hsl : ∀ j, j < N * 3 → ∃ A n c, cv j = .slice A n c) (hBx : W.cell? ⟨Bx, 0, none⟩ = some (.slice A N c)) (h0 : J [] W) :
 CallsIn Fence.wide n Tryz.prog 183 #[.func (.yield l) #[] #[], .pointer (some ⟨Bx, 0, none⟩)] W fun e W' => (∃ v, e = .returned v) ∧
  ((∃ ys, ys = finT N N ∧ J ys W') ∨ (∃ pre, (∃ k, k ≤ N ∧ pre = finT N k) ∧ Jx pre W')) := by
 refine callsIn_of_wp Tryz.func183 rfl trivial ?_ rfl
 simp only [Tryz.ntmps183, List.size_toArray, List.length_cons, List.length_nil, Nat.reduceAdd, Nat.reduceSub, Array.replicate_succ, Array.replicate_zero, List.push_toArray, List.append_toArray, List.nil_append, List.cons_append]
 gi_wp2
 gi_loopw [7] (fun i wr => ∃ k : Nat, k ≤ N ∧ i = .int .i64 (k : Int) ∧ J (finT N k) wr ∧ Hid (K2 n₀ Bx W wr)) (fun i _ => N - (intOf i).toNat)
 case atStart => exact ⟨0, Nat.zero_le _, rfl, h0, K2.of_below (Below.refl _ _) hn0⟩
 case round =>
  obtain ⟨k, hk, rfl, hJs, hnx⟩ := hrel
  have c0 := hnx.out.cell hBx hbx
  by_cases hlt : k < N
  · obtain ⟨rfl, hb⟩ := hA (by omega)
    have i0 : (k : Int) < (N : Int) := by omega
    have j0 : (0 : Int) ≤ (k : Int) := by omega
    have x0 := (hnx.out.1.cell (p := ⟨b, o + (k * 3), none⟩) hb).trans (hcell (k * 3) (by omega))
    have x1 := (hnx.out.1.cell (p := ⟨b, o + (k * 3 + 1), none⟩) hb).trans (hcell (k * 3 + 1) (by omega))
    have x2 := (hnx.out.1.cell (p := ⟨b, o + (k * 3 + 2), none⟩) hb).trans (hcell (k * 3 + 2) (by omega))
    rw [← Nat.add_assoc] at x1 x2
    have hs := hnx.out.1.size
    have hls := fun A' W' (h1 : W'.cell? ⟨b, o + ((k - 1) * 3 + 2), none⟩ = wr.cell? ⟨b, o + ((k - 1) * 3 + 2), none⟩) (h2 : 0 < k → A' = some ⟨b, o, none⟩) => last_at cv b o k c A' W' (by omega) fun h => ⟨h2 h, h1.trans ((hnx.out.1.cell (p := ⟨b, o + ((k - 1) * 3 + 2), none⟩) hb).trans (hcell _ (by omega)))⟩
    have hen : Hid (∀ a0 a1 a2, a0 = cv (k * 3) → a1 = cv (k * 3 + 1) → a2 = cv (k * 3 + 2) → encK cv k = #[lastV cv k, .agg #[a0, a1, a2]]) := fun a0 a1 a2 e0 e1 e2 => by rw [e0, e1, e2]; rfl
    obtain ⟨P0, q0, r0, y0⟩ := hsl (k * 3) (by omega)
    obtain ⟨P1, q1, r1, y1⟩ := hsl (k * 3 + 1) (by omega)
    obtain ⟨P2, q2, r2, y2⟩ := hsl (k * 3 + 2) (by omega)
    generalize h3 : cv (k * 3) = a0 at *
    generalize h4 : cv (k * 3 + 1) = a1 at *
    generalize h5 : cv (k * 3 + 2) = a2 at *
    replace hen := Lib.hid (hen.out _ _ _ rfl rfl rfl)
    clear hcell hA hsl h3 h4 h5
    subst y0 y1 y2
    have hrc := run_cut_to (P := Tryz.prog) 26 Tryz.underlying26 3 link_size (some ⟨b, o, none⟩) N c .i64 (k : Int) j0 (by omega)
    rw [Int.toNat_natCast, Nat.sub_zero, Nat.sub_zero] at hrc
    gi_upto_region 3 with (fail)
    obtain ⟨z0, z1, z2, -, -, -⟩ := box3_cells (Box.new wr 101 [.slice P0 q0 r0, .slice P1 q1 r1, .slice P2 q2 r2])
    have hal := balloc wr (.cells #[.slice P0 q0 r0, .slice P1 q1 r1, .slice P2 q2 r2] 101)
    change (wr.alloc (.cells #[.slice P0 q0 r0, .slice P1 q1 r1, .slice P2 q2 r2] 101)).cell? _ = _ at z0 z1 z2
    have hn1 : n₀ ≤ wr.heap.size := Nat.le_trans hn0 hs
    have hx1 := hnx.out.trans (K2.of_below hal hn1)
    have hbx1 : Bx < wr.heap.size := Nat.lt_of_lt_of_le hbx hs
    have c1 := (hal.cell (p := ⟨Bx, 0, none⟩) hbx1).trans c0
    have hJ1 : J (finT N k) (wr.alloc (.cells #[.slice P0 q0 r0, .slice P1 q1 r1, .slice P2 q2 r2] 101)).drew := hJ _ _ _ none hJs ⟨rfl, rfl, rfl, hal.size, fun _ hk _ => hal.block _ hk⟩ (fun r e => by cases e)
    have hl1 := hls (cutA (some ⟨b, o, none⟩) c 0 3) (wr.alloc (.cells #[.slice P0 q0 r0, .slice P1 q1 r1, .slice P2 q2 r2] 101)).drew (hal.cell (p := ⟨b, o + ((k - 1) * 3 + 2), none⟩) (show b < wr.heap.size by omega)) (fun _ => by unfold cutA; rw [if_neg (by omega)]; rfl)
    generalize cutA (some ⟨b, o, none⟩) c 0 3 = A9 at *
    generalize wr.alloc (.cells #[.slice P0 q0 r0, .slice P1 q1 r1, .slice P2 q2 r2] 101) = W1 at *
    generalize wr.heap.size = g1 at *
    obtain ⟨fn, tmps, assign, body, hy, hR⟩ := hY _ ⟨k, hlt⟩ W1.drew hJ1 (by rw [finT_len N k (by omega)]; exact hlt)
    dsimp only at hy
    rw [hen.out] at hy
    rw [← finT_next] at hR
    generalize lastV cv k = LV at *
    have hR2 := hR.mono (R' := fun e W' => ∃ β : Bool, e = .returned (.bool β) ∧ ((β = true ∧ J (finT N (k + 1)) W' ∧ K2 n₀ Bx W1.drew W') ∨ (β = false ∧ Jx (finT N (k + 1)) W'))) (by
     rintro e W3 (⟨rfl, h1, h2⟩ | ⟨rfl, h1⟩)
     · exact ⟨true, rfl, .inl ⟨rfl, h1, h2⟩⟩
     · exact ⟨false, rfl, .inr ⟨rfl, h1⟩⟩)
    replace hx1 := Lib.hid hx1
    clear hJ1 hJs hal hls hR c0 x0 x1 x2 hnx
    gi_region_with (first
     | (refine ⟨trivial, fun _ => (by omega : 1 ≤ n), (callsIn_wide.2 hl1).mono ?_⟩; rintro e w' ⟨rfl, rfl⟩)
     | (refine ⟨fun _ => (by omega : 1 ≤ n), hR2.mono ?_⟩; rintro e W3 ⟨β, rfl, hβ⟩))
    all_goals
     rcases hβ with ⟨rfl, hJ3, hk3⟩ | ⟨rfl, hJx3⟩
     · have hx3 : Hid (K2 n₀ Bx W W3) := (hx1.out.trans (K2.of_below (bdrew W1) (Nat.le_trans hn0 hx1.out.1.size))).trans hk3
       clear hx1 hk3
       gi_wp2
       go_roundw
       case rel => exact ⟨k + 1, by omega, by go_num, hJ3, hx3⟩
       case measure => simp [intOf]; omega
     · gi_wp2
       refine bodyPost_ret (results_none rfl _ _ _) rfl ?_
       exact ⟨⟨_, rfl⟩, .inr ⟨_, ⟨k + 1, by omega, rfl⟩, hJx3⟩⟩
  · obtain rfl : k = N := by omega
    gi_wp2
    go_end0
    exact ⟨⟨_, rfl⟩, .inl ⟨_, rfl, hJs⟩⟩
theorem followed_stops (n : Nat) (hn : 2 ≤ n) (Bx n₀ b o c N : Nat) (A : Option Addr) (cv : Nat → Value) (hN : N ≤ 8) (hc : N ≤ c) (hA : 0 < N → A = some ⟨b, o, none⟩ ∧ b < n₀) (w : World) (hbx : Bx < w.heap.size) (hn0 : n₀ ≤ w.heap.size)
 (hcell : ∀ j, j < N * 3 → w.cell? ⟨b, o + j, none⟩ = some (cv j)) (hsl : ∀ j, j < N * 3 → ∃ A n c, cv j = .slice A n c) (hBx : w.cell? ⟨Bx, 0, none⟩ = some (.slice A N c)) :
 SeqStopsK Fence.wide n Tryz.prog 183 #[.pointer (some ⟨Bx, 0, none⟩)] (fun k : Fin N => encK cv k.val) (K2 n₀ Bx) (fun ys => ys = finT N N) (fun pre => ∃ k, k ≤ N ∧ pre = finT N k) N w := fun l J Jx W hW hJ _ hY h0 =>
 followed1_in n hn l Bx n₀ b o c N A cv hN hc hA J Jx W.heap.size hJ hY W (Nat.le_trans hn0 hW.size) (Nat.lt_of_lt_of_le hbx hW.size)
  (fun j hj => (hW.cell (p := ⟨b, o + j, none⟩) (show b < w.heap.size by have := (hA (by omega)).2; omega)).trans (hcell j hj)) hsl ((hW.cell (p := ⟨Bx, 0, none⟩) hbx).trans hBx) h0
theorem row_cells {w : World} {B n c : Nat} {A : Option Addr} {ls : List LinkG} (h : SeesR w B (.slice A n c) 3 n (linkS ls)) (hn : ls.length = n) :
 ∃ (cv : Nat → Value) (b o : Nat), n ≤ c ∧ (0 < n → A = some ⟨b, o, none⟩ ∧ b < B) ∧ (∀ j, j < n * 3 → w.cell? ⟨b, o + j, none⟩ = some (cv j)) ∧ (∀ j, j < n * 3 → ∃ A n c, cv j = .slice A n c) ∧
  ∀ k, k < n → SeesB w B (cv (k * 3)) (linkT ls k).1 ∧ SeesB w B (cv (k * 3 + 1)) (linkT ls k).2.1 ∧ SeesB w B (cv (k * 3 + 2)) (linkT ls k).2.2 := by
 obtain ⟨h0, vs, hs, hv⟩ := h
 obtain ⟨A', c', e, hc1, -⟩ := hs.mk_
 injection e with e1 e2 e3
 subst e1 e3
 have hvl : vs.length = n * 3 := hs.len
 have hg : ∀ j, j < n * 3 → vs[j]? = some (vs.getD j undef) := fun j hj => by rw [List.getD_eq_getElem?_getD, List.getElem?_eq_getElem (by omega)]; rfl
 have hk : ∀ k, k < n → SeesB w B (vs.getD (k * 3) undef) (linkT ls k).1 ∧ SeesB w B (vs.getD (k * 3 + 1) undef) (linkT ls k).2.1 ∧ SeesB w B (vs.getD (k * 3 + 2) undef) (linkT ls k).2.2 := fun k hk => by
  have hdk : ls[k]? = some (linkT ls k) := by rw [linkT, List.getD_eq_getElem?_getD, List.getElem?_eq_getElem (by omega)]; rfl
  obtain ⟨g1, g2, g3⟩ := linkS_get ls k _ hdk
  have one : ∀ (j : Nat) (l : Bs), (linkS ls)[j]? = some (.byt l) → j < n * 3 → SeesB w B (vs.getD j undef) l := fun j l hj hjn => by
   obtain ⟨u, e1, e2⟩ := hv j _ hj
   rw [hg j hjn] at e1
   cases e1
   exact e2
  exact ⟨one _ _ g1 (by omega), one _ _ g2 (by omega), one _ _ g3 (by omega)⟩
 have hsl : ∀ j, j < n * 3 → ∃ A n c, vs.getD j undef = .slice A n c := fun j hj => by
  have hq := hk (j / 3) (by omega)
  rcases (show j % 3 = 0 ∨ j % 3 = 1 ∨ j % 3 = 2 by omega) with h | h | h
  · obtain ⟨A, c, e, -, -⟩ := hq.1.mk_
    rw [show j / 3 * 3 = j by omega] at e
    exact ⟨_, _, _, e⟩
  · obtain ⟨A, c, e, -, -⟩ := hq.2.1.mk_
    rw [show j / 3 * 3 + 1 = j by omega] at e
    exact ⟨_, _, _, e⟩
  · obtain ⟨A, c, e, -, -⟩ := hq.2.2.mk_
    rw [show j / 3 * 3 + 2 = j by omega] at e
    exact ⟨_, _, _, e⟩
 rcases Nat.eq_zero_or_pos n with hz | hz
 · subst hz
   exact ⟨fun j => vs.getD j undef, 0, 0, hc1, fun h => absurd h (by omega), fun j hj => absurd hj (by omega), hsl, hk⟩
 · obtain ⟨b, o, e, hb, hcell⟩ := hs.at_ hz
   exact ⟨fun j => vs.getD j undef, b, o, hc1, fun _ => ⟨e, hb⟩, fun j hj => hcell j _ (hg j hj), hsl, hk⟩
theorem last_sees {w : World} {B : Nat} {cv : Nat → Value} {ls : List LinkG} {n : Nat} (hn : ls.length = n) (h : ∀ k, k < n → SeesB w B (cv (k * 3 + 2)) (linkT ls k).2.2) (k : Nat) (hk : k < n) : SeesB w B (lastV cv k) (lastA (ls.take k)) := by
 cases k with
 | zero => exact SeesB.nil _ _
 | succ m =>
   have hdk : ls[m]? = some (linkT ls m) := by rw [linkT, List.getD_eq_getElem?_getD, List.getElem?_eq_getElem (by omega)]; rfl
   have hl := lastA_get (ls.take (m + 1)) m (linkT ls m) (by rw [List.length_take]; omega) (by rw [List.getElem?_take, if_pos (by omega)]; exact hdk)
   rw [hl]
   exact h m (by omega)
def spanC2 (vs : List (Int × Int)) : List Value := vs.flatMap fun v => [.int .i64 v.1, .int .i64 v.2]
theorem spanC2_row {w : World} {base n : Nat} {v : Value} {vs : List (Int × Int)} (h : w.ownsRow base 23 2 v n (spanC2 vs)) (hn : vs.length = n) : SeesR w w.heap.size v 2 n (spanS vs) := by
 refine ⟨by rw [spanS_len, hn], _, Sees.of_own h, fun k s hk => ?_⟩
 have e : (spanC2 vs).map Spec.val = spanS vs := by simp [spanC2, spanS, List.map_flatMap]
 rw [← e, List.getElem?_map] at hk
 cases hc : (spanC2 vs)[k]? with
 | none => rw [hc] at hk; cases hk
 | some u =>
   rw [hc] at hk
   cases hk
   refine ⟨u, rfl, rfl, ?_⟩
   have hm := List.mem_of_getElem? hc
   simp only [spanC2, List.mem_flatMap] at hm
   obtain ⟨p, -, hp⟩ := hm
   simp at hp
   rcases hp with rfl | rfl <;> rfl
theorem keeps_below {B : Nat} {W W' : World} (h : Below W.heap.size W W') : KeepsFrom B W W' :=
 ⟨h.size, fun k o hB hk _ => (h.block k (Array.getElem?_eq_some_iff.1 hk).1).trans hk⟩
theorem finT_map {β : Type} (N : Nat) (f : Nat → β) : (finT N N).map (fun i => f i.val) = (List.range N).map f := by
 apply List.ext_getElem?
 intro j
 by_cases h : j < N
 · rw [List.getElem?_map, List.getElem?_map, List.getElem?_range h, finT, List.getElem?_take, if_pos h, List.getElem?_eq_getElem (by simpa using h)]
   simp
 · rw [List.getElem?_eq_none (by simp [finT]; omega), List.getElem?_eq_none (by simp; omega)]
theorem finT_mem (N k j : Nat) (hk : k ≤ N) (h : j < k) : (⟨j, by omega⟩ : Fin N) ∈ finT N k := by
 refine List.mem_of_getElem? (i := j) ?_
 rw [finT, List.getElem?_take, if_pos h, List.getElem?_eq_getElem (by simp; omega)]
 simp
theorem first_all (ls : List LinkG) (k : Nat) (h : ∀ j, j < k → linkC ls j = 0) : firstC ls k = 0 := by
 induction k with
 | zero => rfl
 | succ k ih => rw [first_ok ls k (ih fun j hj => h j (by omega)), h k (by omega)]
theorem spanC2_sees {w : World} {B n : Nat} {v : Value} {vs : List (Int × Int)} (h : SeesR w B v 2 n (spanS vs)) : Sees w B v 2 n (spanC2 vs) := by
 obtain ⟨h0, us, hs, hu⟩ := h
 have e : us = spanC2 vs := by
  have em : (spanC2 vs).map Spec.val = spanS vs := by simp [spanC2, spanS, List.map_flatMap]
  apply List.ext_getElem?
  intro j
  by_cases hj : j < (spanS vs).length
  · obtain ⟨u, e1, e2⟩ := hu j _ (List.getElem?_eq_getElem hj)
    have h2 : ((spanC2 vs).map Spec.val)[j]? = some (spanS vs)[j] := by rw [em]; exact List.getElem?_eq_getElem hj
    rw [List.getElem?_map] at h2
    cases hc : (spanC2 vs)[j]? with
    | none => rw [hc] at h2; cases h2
    | some y =>
      rw [hc] at h2
      have h3 : Spec.val y = (spanS vs)[j] := Option.some.inj h2
      rw [← h3] at e2
      rw [e1, e2.1]
  · have hl : (spanC2 vs).length = (spanS vs).length := by rw [← em, List.length_map]
    rw [List.getElem?_eq_none (by rw [hs.len, ← h0]; omega), List.getElem?_eq_none (by omega)]
 rw [← e]
 exact hs
theorem spanC2_get (vs : List (Int × Int)) : ∀ k, k < vs.length → (spanC2 vs)[k * 2]? = some (.int .i64 (vs.getD k (0, 0)).1) ∧ (spanC2 vs)[k * 2 + 1]? = some (.int .i64 (vs.getD k (0, 0)).2) := by
 induction vs with
 | nil => intro k h; simp at h
 | cons a r ih =>
   intro k h
   cases k with
   | zero => exact ⟨rfl, rfl⟩
   | succ k =>
     obtain ⟨h1, h2⟩ := ih k (by simpa using h)
     have e : spanC2 (a :: r) = [.int .i64 a.1, .int .i64 a.2] ++ spanC2 r := rfl
     rw [e, show (k + 1) * 2 = k * 2 + 2 by omega, show k * 2 + 2 + 1 = k * 2 + 1 + 2 by omega]
     exact ⟨h1, h2⟩
end Go.Proofs.YtgehkgjllhkhoaaGreat
namespace Go.Proofs.YtgehkgjllhkhoaaGreat
open Go Go.RowKit Go.Shelf
set_option linter.unusedVariables false
attribute [local go_sem ↓] Go.wp_at_zero Go.wp_at_succ
attribute [local go_sem] Oper.semAt_some
def spansOf (ls : List LinkG) {N : Nat} (pre : List (Fin N)) : List (Int × Int) := pre.map fun i => linkV ls i.val
def InvV (ls : List LinkG) (N : Nat) (w : World) (A : Option Addr) (c G : Nat) (z : Nat) (pre : List (Fin N)) (W : World) : Prop :=
 (∃ v, Boxed W (w.heap.size + 1 + 1) 28 v ∧ W.ownsRow w.heap.size 23 2 v pre.length (spanC2 (spansOf ls pre)) ∧ True) ∧
  (Boxed W w.heap.size 28 (.slice none 0 0) ∧ Boxed W (w.heap.size + 1) 31 (.int .i64 0) ∧ Boxed W G 26 (.slice A N c)) ∧ Below w.heap.size w W ∧ (∀ x ∈ pre, linkC ls x.val = 0) ∧ z ≤ W.heap.size
def OutV (ls : List LinkG) (N : Nat) (w : World) (c : Code) (pre : List (Fin N)) (W : World) : Prop :=
 (c = .ret ∧ ∃ (qs : List (Fin N)) (x : Fin N), pre = qs ++ [x] ∧ (∀ y ∈ qs, linkC ls y.val = 0) ∧ linkC ls x.val ≠ 0 ∧ True) ∧
  (Boxed W w.heap.size 28 (.slice none 0 0) ∧ (∃ (qs : List (Fin N)) (x : Fin N), pre = qs ++ [x] ∧ Boxed W (w.heap.size + 1) 31 (.int .i64 (linkC ls x.val)))) ∧ Below w.heap.size w W
def AxV (cv : Nat → Value) (A : Option Addr) (c G N : Nat) (w : World) (x : Fin N) (a' : Act) (W : World) : Prop :=
 ∃ g, W.heap[g]? = some (.cells #[cv (x.val * 3), cv (x.val * 3 + 1), cv (x.val * 3 + 2)] 101) ∧ a' = { tmps := #[.slice A N c, undef, .pointer (some ⟨w.heap.size, 0, none⟩), .pointer (some ⟨w.heap.size + 1, 0, none⟩), .pointer (some ⟨w.heap.size + 1 + 1, 0, none⟩), lastV cv x.val, .pointer (some ⟨g, 0, none⟩), undef, undef, undef, .slice A N c, .int .i64 (N : Int), .bool false, .slice A N c, .func (.func 183) #[] #[.pointer (some ⟨G, 0, none⟩)], lastV cv x.val, .agg #[cv (x.val * 3), cv (x.val * 3 + 1), cv (x.val * 3 + 2)], undef, undef, undef, undef, undef, undef, undef, undef, undef, undef, undef, undef, undef, undef, undef, undef, undef, undef, undef, undef, undef, undef, undef, undef, undef, undef, undef], defers := [] }
theorem cells_own {β : Type} (B : Nat) (f : β → Nat → Prop) (T : TypeId) (cs : Array Value) : OwnFrom B (fun (s : β) W => ∃ g, W.heap[g]? = some (.cells cs T) ∧ f s g) := fun s X Y row hs hg hrow => by
 obtain ⟨g, h1, h2⟩ := hs
 refine ⟨g, (hg.block g (Array.getElem?_eq_some_iff.1 h1).1 (fun e => ?_)).trans h1, h2⟩
 obtain ⟨-, o, ho, hc⟩ := hrow g e.symm
 rw [h1] at ho
 cases ho
 cases hc
theorem cells_two (w : World) (a b : Value) (T : TypeId) : ∀ (j : Nat) (u : Value), [a, b][j]? = some u → (w.alloc (.cells #[a, b] T)).cell? ((⟨w.heap.size, 0, none⟩ : Addr).add j) = some u := by
 intro j u h
 have hx := Box.new w T [a, b]
 match j, h with
 | 0, h => cases h; exact hx.cell 0
 | 1, h => cases h; exact hx.cell 1
theorem outV_of {ls : List LinkG} {N B : Nat} {w W w1 : World} {pre : List (Fin N)} {x : Fin N} {C : Int} (j3 : Boxed w1 w.heap.size 28 (.slice none 0 0)) (j4 : Boxed w1 (w.heap.size + 1) 31 (.int .i64 0)) (hK : KeepsFrom B W w1) (hb : Below w.heap.size w w1)
 (h0 : ∀ y ∈ pre, linkC ls y.val = 0) (hC : linkC ls x.val = C) (hne : C ≠ 0) :
 KeepsFrom B W ((w1.setCell ⟨w.heap.size, 0, none⟩ (.slice none 0 0)).setCell ⟨w.heap.size + 1, 0, none⟩ (.int .i64 C)) ∧ OutV ls N w .ret (pre ++ [x]) ((w1.setCell ⟨w.heap.size, 0, none⟩ (.slice none 0 0)).setCell ⟨w.heap.size + 1, 0, none⟩ (.int .i64 C)) := by
 refine ⟨hK.trans (((KeepsOthers.setCell _ _ _).trans (KeepsOthers.setCell _ _ _)).from _), ⟨rfl, pre, x, rfl, h0, by rw [hC]; exact hne, trivial⟩, ⟨(j3.set _).other (by omega) _, pre, x, rfl, ?_⟩, (hb.setCell (p := ⟨w.heap.size, 0, none⟩) (Nat.le_refl _) _).setCell (p := ⟨w.heap.size + 1, 0, none⟩) (Nat.le_succ _) _⟩
 rw [hC]
 exact (j4.other (by omega) _).set _
set_option maxRecDepth 100000 in
set_option maxHeartbeats 4000000 in
theorem cver_in (B : Nat) (u : Value) (ls : List LinkG) (w : World) (hu : SeesR w B u 3 ls.length (linkS ls)) (hB : B ≤ w.heap.size) (hn : ls.length ≤ 8) (hl : ∀ t ∈ ls, t.2.2.length ≤ 1048576) :
 CallsIn Fence.wide 3 Tryz.prog 59 #[u] w (CVerP ls w) := by
 obtain ⟨A, c, rfl, -, -⟩ := hu.mk_
 obtain ⟨cv, b, o, hnc, hA, hcell, hsl, hk3⟩ := row_cells hu rfl
 have hCC : Hid (cverC ls = firstC ls ls.length) := by show _ = _; rw [cverC, if_neg (by omega)]
 have i8 : ¬ (8 : Int) < (ls.length : Int) := by omega
 generalize hN : ls.length = N at *
 refine callsIn_of_wp_marks Tryz.func59 rfl trivial ?_ rfl
 simp only [Tryz.ntmps59, List.size_toArray, List.length_cons, List.length_nil, Nat.reduceAdd, Nat.reduceSub, Array.replicate_succ, Array.replicate_zero, List.push_toArray, List.append_toArray, List.nil_append, List.cons_append]
 gi_wp2
 have hb3 := bgo (bgo (balloc w (.cells #[.slice none 0 0] 28)) (balloc _ (.cells #[.int .i64 0] 31))) (balloc _ (.cells #[.slice none 0 0] 28))
 have hx0 : Boxed (((w.alloc (.cells #[.slice none 0 0] 28)).alloc (.cells #[.int .i64 0] 31)).alloc (.cells #[.slice none 0 0] 28)) w.heap.size 28 (.slice none 0 0) := ((Boxed.new w _ _).alloc _).alloc _
 have hx1 := (Boxed.new (w.alloc (.cells #[.slice none 0 0] 28)) 31 (.int .i64 0)).alloc (.cells #[.slice none 0 0] 28)
 have hx2 := Boxed.new ((w.alloc (.cells #[.slice none 0 0] 28)).alloc (.cells #[.int .i64 0] 31)) 28 (.slice none 0 0)
 rw [World.size_alloc] at hx1
 rw [World.size_alloc, World.size_alloc] at hx2
 generalize ((w.alloc (.cells #[.slice none 0 0] 28)).alloc (.cells #[.int .i64 0] 31)).alloc (.cells #[.slice none 0 0] 28) = W3 at *
 refine ⟨trivial, (callsIn_wide.2 (followed_any _ _ _ _)).mono ?_⟩
 rintro e w' ⟨rfl, rfl⟩
 dsimp only
 gi_wp2
 have hal := balloc W3 (.cells #[.slice A N c] 26)
 have hx3 := Boxed.new W3 26 (.slice A N c)
 have hx0' := hx0.alloc (.cells #[.slice A N c] 26)
 have hx1' := hx1.alloc (.cells #[.slice A N c] 26)
 have hx2' := hx2.alloc (.cells #[.slice A N c] 26)
 have hb4 := bgo hb3 hal
 have hGn := Lib.hid hx2.lt
 clear hx0 hx1 hx2 hb3 hal
 generalize W3.alloc (.cells #[.slice A N c] 26) = W4 at *
 generalize W3.heap.size = G at *
 refine wpIn_rangeFunc_ownH (α := Fin N) rfl (by omega) (gf := 183) (lb := #[.pointer (some ⟨G, 0, none⟩)]) rfl trivial (enters_of Tryz.func183 (by kernel_rfl) rfl)
  (followed_stops 2 (by omega) G w.heap.size b o c N A cv hn hnc (fun h => ⟨(hA h).1, by have := (hA h).2; omega⟩) W4 hx3.lt hb4.size (fun j hj => (hb4.cell (p := ⟨b, o + j, none⟩) (show b < w.heap.size by have := (hA (by omega)).2; omega)).trans (hcell j hj)) hsl hx3.cell) K2.trans (fun W l o o' hl ho h1 h2 => ⟨belowK_b (w := W4) hb4.size W l o o' hl ho h1 h2, fun hG => World.putObj_heap_other (by have := hx3.lt; omega)⟩) (Below.refl _ _) (fun _ => rfl)
  (InvV ls N w A c G W4.heap.size) (OutV ls N w)
  (OwnFrom.and (Own.from (holdsRow_own w.heap.size (w.heap.size + 1 + 1) 28 23 2 (fun pre : List (Fin N) => pre.length) (fun pre => spanC2 (spansOf ls pre)) (fun _ _ => True)) _)
   (OwnFrom.and (OwnFrom.and (Own.from (boxed_own _ _ _) _) (OwnFrom.and (Own.from (boxed_own _ _ _) _) (Own.from (boxed_own _ _ _) _))) (OwnFrom.and (ownFrom_below (Nat.le_refl _) hb4.size) (OwnFrom.and (ownFrom_pure _ _) (fun s X Y row hs hg _ => Nat.le_trans hs hg.size)))))
  (fun cd => OwnFrom.and (ownFrom_pure _ _) (OwnFrom.and (OwnFrom.and (Own.from (boxed_own _ _ _) _)
   (fun s X Y row hs hg hrow => by obtain ⟨qs, x, e, hx⟩ := hs; exact ⟨qs, x, e, Own.from (boxed_own (w.heap.size + 1) 31 (fun v : Value => v)) W4.heap.size _ X Y row hx hg hrow⟩)) (ownFrom_below (Nat.le_refl _) hb4.size)))
  ⟨⟨_, hx2', World.ownsRow_nil _ _ _ _, trivial⟩, ⟨hx0', hx1', hx3⟩, hb4, (fun x hx => by cases hx), Nat.le_refl _⟩ (AxV cv A c G N w) (fun x a' => cells_own _ _ _ _) ?assign ?body ?done ?stop
 case assign =>
  intro l pre x W K hI hK
  obtain ⟨P0, q0, r0, y0⟩ := hsl (x.val * 3) (by have := x.isLt; omega)
  obtain ⟨P1, q1, r1, y1⟩ := hsl (x.val * 3 + 1) (by have := x.isLt; omega)
  obtain ⟨P2, q2, r2, y2⟩ := hsl (x.val * 3 + 2) (by have := x.isLt; omega)
  have hK2 := Lib.hid (fun g (W' : World) (h1 : KeepsFrom W4.heap.size W W') (h2 : K2 w.heap.size G W W') (h3 : InvV ls N w A c G W4.heap.size pre W') (h4 : W'.heap[g]? = some (.cells #[cv (x.val * 3), cv (x.val * 3 + 1), cv (x.val * 3 + 2)] 101)) => hK _ W' h1 h2 h3 ⟨g, h4, rfl⟩)
  clear hK
  rw [y0, y1, y2] at hK2
  unfold encK
  rw [y0, y1, y2]
  generalize lastV cv x.val = LV at *
  gi_wp2
  have hal := balloc W (.cells #[.slice P0 q0 r0, .slice P1 q1 r1, .slice P2 q2 r2] 101)
  obtain ⟨⟨v, i1, i2, -⟩, ⟨i3, i4, i9⟩, i5, i6, i7⟩ := hI
  exact hK2.out _ _ (keeps_below hal) (K2.of_below hal i5.size) ⟨⟨v, i1.alloc _, i2.alloc _, trivial⟩, ⟨i3.alloc _, i4.alloc _, i9.alloc _⟩, bgo i5 hal, i6, Nat.le_trans i7 hal.size⟩ (World.alloc_heap_new W _)
 case body =>
  rintro l pre x a' W hzl ⟨r, hr⟩ ⟨⟨v, i1, i2, -⟩, ⟨i3, i4, i9⟩, i5, i6, i7⟩ ⟨g, hg, rfl⟩ hlt
  have hx := x.isLt
  obtain ⟨P0, q0, r0, y0⟩ := hsl (x.val * 3) (by omega)
  obtain ⟨P1, q1, r1, y1⟩ := hsl (x.val * 3 + 1) (by omega)
  obtain ⟨P2, q2, r2, y2⟩ := hsl (x.val * 3 + 2) (by omega)
  obtain ⟨s0, s1, s2⟩ := hk3 x.val hx
  have s3 := last_sees hN (fun k hk => (hk3 k hk).2.2) x.val hx
  have hiB := i5.mono hB
  have hBW : B ≤ W.heap.size := Nat.le_trans hB i5.size
  replace s0 := (s0.below hiB).more hBW
  replace s1 := (s1.below hiB).more hBW
  replace s2 := (s2.below hiB).more hBW
  replace s3 := (s3.below hiB).more hBW
  have hal := hl _ (List.mem_of_getElem? (show ls[x.val]? = some (linkT ls x.val) by rw [linkT, List.getD_eq_getElem?_getD, List.getElem?_eq_getElem (by omega)]; rfl))
  have hLC : Hid (linkC ls x.val = if nonceC (lastA (ls.take x.val)) (linkT ls x.val).2.1 = 0 then dverC (linkT ls x.val).1 (linkN ls x.val) (linkT ls x.val).2.2 else nonceC (lastA (ls.take x.val)) (linkT ls x.val).2.1) := rfl
  have hNN : Hid (linkN ls x.val = nonceG (lastA (ls.take x.val)) (linkT ls x.val).2.1) := rfl
  have hLV : Hid (linkV ls x.val = (dverLo (linkT ls x.val).1 (linkN ls x.val) (linkT ls x.val).2.2, dverHi (linkT ls x.val).1 (linkN ls x.val) (linkT ls x.val).2.2)) := rfl
  rw [y0] at s0
  rw [y1] at s1
  rw [y2] at s2
  rw [y0, y1, y2] at hg ⊢
  generalize lastV cv x.val = LV at *
  have hno := nonce_any W.heap.size W.heap.size _ _ _ _ W s3 (Nat.le_refl _) s1 (Nat.le_refl _)
  unfold NonP at hno
  rw [← hNN.out] at hno
  generalize linkT ls x.val = t at *
  generalize linkN ls x.val = NN at *
  generalize nonceC (lastA (ls.take x.val)) t.2.1 = C1 at *
  obtain ⟨t1, t2, t3⟩ := t
  dsimp only at *
  have z1 : W.cell? ⟨g, 1, none⟩ = some (.slice P1 q1 r1) := by simp [World.cell?, hg]
  replace hno := Lib.hid hno
  have z0 : W.heap[g]? = some (.cells #[.slice P0 q0 r0, .slice P1 q1 r1, .slice P2 q2 r2] 101) := hg
  have hgl : g < W.heap.size := (Array.getElem?_eq_some_iff.1 z0).1
  clear hk3 hsl hcell hA s3 hu hx0' hx1' hx2' hx3
  gi_wp2
  refine ⟨trivial, CallsIn.inRound l ((callsIn_wide.2 hno.out).mono ?_)⟩
  rintro e w1 ⟨v1, rfl, f1, hb1⟩
  obtain ⟨Q1, d1, rfl, -, -⟩ := f1.sees.mk_
  have j3 : Boxed w1 w.heap.size 28 (.slice none 0 0) := (hb1.block _ i3.lt).trans i3
  have j4 : Boxed w1 (w.heap.size + 1) 31 (.int .i64 0) := (hb1.block _ i4.lt).trans i4
  have j1 : Boxed w1 (w.heap.size + 1 + 1) 28 v := (hb1.block _ i1.lt).trans i1
  have j2 := own_below i2 hb1
  have zz := (hb1.block _ hgl).trans z0
  replace s0 := seesB_of s0 (Nat.le_refl _) hb1
  replace s2 := seesB_of s2 (Nat.le_refl _) hb1
  have hbW := Lib.hid (bgo i5 hb1)
  clear hno z1 z0 hg
  by_cases hC : C1 = 0
  rotate_left
  · have c3 := j3.cell
    have c4 := j4.cell
    have d3 := j3.frozen
    have d4 := j4.frozen
    have hC' : Hid (linkC ls x.val = C1) := by show _ = _; rw [hLC.out, if_neg hC]
    have hne : Hid (C1 ≠ 0) := hC
    replace j3 := Lib.hid j3
    replace j4 := Lib.hid j4
    replace hb1 := Lib.hid hb1
    clear hLC hLV hNN
    gi_wp2
    exact outV_of j3.out j4.out (keeps_below hb1.out) hbW.out i6 hC'.out hne.out
  subst hC
  have hdv := dverify_any w1.heap.size _ _ _ t1 NN t3 w1 s0 f1.sees s2 (Nat.le_refl _) hal
  rw [if_pos rfl] at hLC
  generalize hC2 : dverC t1 NN t3 = C2 at *
  unfold DVerP at hdv
  rw [hC2] at hdv
  generalize dverLo t1 NN t3 = lo at *
  generalize dverHi t1 NN t3 = hi at *
  replace hdv := Lib.hid hdv
  have z0 : w1.cell? ⟨g, 0, none⟩ = some (.slice P0 q0 r0) := by simp [World.cell?, zz]
  have z2 : w1.cell? ⟨g, 2, none⟩ = some (.slice P2 q2 r2) := by simp [World.cell?, zz]
  clear s0 s2 f1 hNN hC2 zz
  gi_wp2
  refine ⟨trivial, CallsIn.inRound l ((callsIn_wide.2 hdv.out).mono ?_)⟩
  rintro e w2 ⟨rfl, hb2⟩
  have hal2 := balloc w2 (.cells #[.int .i64 lo, .int .i64 hi] 23)
  have hb3 := bgo hb2 hal2
  have k3 : Boxed (w2.alloc (.cells #[.int .i64 lo, .int .i64 hi] 23)) w.heap.size 28 (.slice none 0 0) := (hb3.block _ j3.lt).trans j3
  have k4 : Boxed (w2.alloc (.cells #[.int .i64 lo, .int .i64 hi] 23)) (w.heap.size + 1) 31 (.int .i64 0) := (hb3.block _ j4.lt).trans j4
  have k1 : Boxed (w2.alloc (.cells #[.int .i64 lo, .int .i64 hi] 23)) (w.heap.size + 1 + 1) 28 v := (hb3.block _ j1.lt).trans j1
  have k2 := own_below j2 hb3
  have hbW3 := Lib.hid (bgo hbW.out hb3)
  have hb13 := Lib.hid (bgo hb1 hb3)
  obtain ⟨x0, x1⟩ := boxT2 (Box.new w2 23 [.int .i64 lo, .int .i64 hi])
  change (w2.alloc (.cells #[.int .i64 lo, .int .i64 hi] 23)).cell? _ = _ at x0 x1
  clear hdv z0 z2 j1 j2 j3 j4 hbW hb1 hb2 hb3 hal2
  dsimp only
  gi_upto_region 11 with (fail)
  generalize w2.alloc (.cells #[.int .i64 lo, .int .i64 hi] 23) = W5 at *
  generalize w2.heap.size = gz at *
  by_cases hC : C2 = 0
  rotate_left
  · have c3 := k3.cell
    have c4 := k4.cell
    have d3 := k3.frozen
    have d4 := k4.frozen
    have hne : Hid (C2 ≠ 0) := hC
    replace k3 := Lib.hid k3
    replace k4 := Lib.hid k4
    clear hLV
    gi_wp2
    exact outV_of k3.out k4.out (keeps_below hb13.out) hbW3.out i6 hLC.out hne.out
  subst hC
  have hc1 := k1.cell
  obtain ⟨ti, hti, htz, hts, htb⟩ := info_parts span_info
  replace hti := Lib.hid hti
  replace htz := Lib.hid htz
  replace hts := Lib.hid hts
  replace htb := Lib.hid htb
  replace k3 := Lib.hid k3
  replace k4 := Lib.hid k4
  replace k1 := Lib.hid k1
  have hrow := Lib.hid (k2.alloc (.cells #[.int .i64 lo, .int .i64 hi] 23))
  replace k2 := Lib.hid k2
  have hpl : Hid (pre.length ≤ 8) := by show _ ≤ _; omega
  have hsz : Hid (w.heap.size ≤ W5.heap.size) := hbW3.out.size
  gi_wp2_with (gi_at_builtin; refine wpListIn_append_own_at _ rfl (.tmp 39) (.tmp 41) 28 rfl w.heap.size 23 ti (.agg #[.int .i64 0, .int .i64 0]) 2 16 Tryz.underlying28 hti.out htz.out hts.out htb.out rfl (by decide) v pre.length (spanC2 (spansOf ls pre)) rfl hrow.out ⟨W5.heap.size, 0, none⟩ 1 1 [.int .i64 lo, .int .i64 hi] rfl rfl (cells_two _ _ _ _) (by simp [Value.oneCell']) (by have := hpl.out; unfold maxLen; omega) (by have := hpl.out; omega) (Nat.le_trans hsz.out (by simp)) ?_; intro v' w6 hown' hgrow _ _; obtain ⟨g', cap', rfl⟩ := ownsRow_succ hown'; obtain ⟨hv1, hv2, hr2, hk2, hb2⟩ := k1.out.appended (by decide) k2.out hsz.out (Nat.le_trans (Nat.le_succ _) (Nat.le_succ _)) hown' hgrow; have hc6 := hv1.cell; have hf6 := hv1.frozen)
  have hsp : Hid (spansOf ls (pre ++ [x]) = spansOf ls pre ++ [(lo, hi)]) := by show _ = _; rw [spansOf, List.map_append, ← hLV.out]; rfl
  have hlen : (pre ++ [x]).length = pre.length + 1 := by simp
  have m5 : Boxed W5 G 26 (.slice A N c) := (hb13.out.block _ i9.lt).trans i9
  have q9 := ((m5.alloc (.cells #[.int .i64 lo, .int .i64 hi] 23)).kept hgrow (m5.not_row (by decide) k2.out)).other (B' := w.heap.size + 1 + 1) (by have := hGn.out; omega) (.slice (some ⟨g', 0, none⟩) (pre.length + 1) cap')
  have q3 := ((k3.out.alloc (.cells #[.int .i64 lo, .int .i64 hi] 23)).kept hgrow (k3.out.not_row (by decide) k2.out)).other (B' := w.heap.size + 1 + 1) (by omega) (.slice (some ⟨g', 0, none⟩) (pre.length + 1) cap')
  have q4 := ((k4.out.alloc (.cells #[.int .i64 lo, .int .i64 hi] 23)).kept hgrow (k4.out.not_row (by decide) k2.out)).other (B' := w.heap.size + 1 + 1) (by omega) (.slice (some ⟨g', 0, none⟩) (pre.length + 1) cap')
  refine ⟨(keeps_below hb13.out).trans (hk2.from _), (K2.of_below hb13.out i5.size).trans ⟨hb2, fun hG => q9.trans m5.symm⟩, ⟨_, hv2, ?_, trivial⟩, ⟨q3, q4, q9⟩, hbW3.out.trans hb2, fun y hy => ?_, Nat.le_trans i7 (Nat.le_trans hb13.out.size hb2.size)⟩
  · rw [hsp.out, hlen]
    have e : spanC2 (spansOf ls pre ++ [(lo, hi)]) = spanC2 (spansOf ls pre) ++ [.int .i64 lo, .int .i64 hi] := by simp [spanC2]
    rw [e]
    exact hr2
  · rcases List.mem_append.1 hy with h | h
    · exact i6 y h
    · obtain rfl := List.mem_singleton.1 h
      exact hLC.out
 case done =>
  rintro D xs W hD rfl ⟨⟨v, i1, i2, -⟩, ⟨i3, i4, i9⟩, i5, i6, i7⟩ hK
  rw [finT_len N N (Nat.le_refl _), show spansOf ls (finT N N) = cverK ls N from finT_map N _] at i2
  have hz : cverC ls = 0 := by rw [hCC.out]; exact first_all ls N fun j hj => i6 _ (finT_mem N N j (Nat.le_refl _) hj)
  obtain ⟨A', c', rfl, -, -⟩ := (Sees.of_own i2).mk_
  have c1 := i1.cell
  have c3 := i3.cell
  have c4 := i4.cell
  have d3 := i3.frozen
  have d4 := i4.frozen
  have hD0 : W4.heap.size ≤ D := hD
  have hg4 := hb4.size
  have n0 := hGn.out
  have n1 := hx3.lt
  replace i1 := Lib.hid i1
  replace i2 := Lib.hid i2
  replace i3 := Lib.hid i3
  replace i4 := Lib.hid i4
  replace hz := Lib.hid hz
  clear hu hcell hsl hk3 hA i6 i9 i7
  gi_wp2
  have hne0 : D ≠ w.heap.size := by omega
  have hne1 : D ≠ w.heap.size + 1 := by omega
  have hK' : ((W.setCell ⟨w.heap.size, 0, none⟩ (.slice A' N c')).setCell ⟨w.heap.size + 1, 0, none⟩ (.int .i64 0)).heap[D]? = some (.deferred (some [])) := by
   rw [Below.heap_setCell _ ⟨w.heap.size + 1, 0, none⟩ _ D hne1, Below.heap_setCell _ ⟨w.heap.size, 0, none⟩ _ D hne0]
   exact hK
  have hbS : Below w.heap.size w ((W.setCell ⟨w.heap.size, 0, none⟩ (.slice A' N c')).setCell ⟨w.heap.size + 1, 0, none⟩ (.int .i64 0)) := (i5.setCell (p := ⟨w.heap.size, 0, none⟩) (Nat.le_refl _) _).setCell (p := ⟨w.heap.size + 1, 0, none⟩) (Nat.le_succ _) _
  have y3 : Boxed ((W.setCell ⟨w.heap.size, 0, none⟩ (.slice A' N c')).setCell ⟨w.heap.size + 1, 0, none⟩ (.int .i64 0)) w.heap.size 28 (.slice A' N c') := (i3.out.set _).other (by omega) _
  have y4 : Boxed ((W.setCell ⟨w.heap.size, 0, none⟩ (.slice A' N c')).setCell ⟨w.heap.size + 1, 0, none⟩ (.int .i64 0)) (w.heap.size + 1) 31 (.int .i64 0) := (i4.out.other (by omega) _).set _
  have y2 := ownsRow_setCell_other (ownsRow_setCell_other i2.out (a := ⟨w.heap.size, 0, none⟩) (fun e => i3.out.not_row (by decide) i2.out e.symm) (.slice A' N c')) (a := ⟨w.heap.size + 1, 0, none⟩) (fun e => i4.out.not_row (by decide) i2.out e.symm) (.int .i64 0)
  generalize (W.setCell ⟨w.heap.size, 0, none⟩ (.slice A' N c')).setCell ⟨w.heap.size + 1, 0, none⟩ (.int .i64 0) = W6 at *
  refine ⟨by simp, .inl ⟨_, _, rfl, run_takeDeferred hK', ?_⟩⟩
  have u3 : Boxed (W6.putObj D (.deferred none)) w.heap.size 28 (.slice A' N c') := (World.putObj_heap_other (fun e => hne0 e.symm)).trans y3
  have u4 : Boxed (W6.putObj D (.deferred none)) (w.heap.size + 1) 31 (.int .i64 0) := (World.putObj_heap_other (fun e => hne1 e.symm)).trans y4
  have u2 := ownsRow_putObj y2 (.deferred none) hK' rfl
  have hbT : Below w.heap.size w (W6.putObj D (.deferred none)) := hbS.trans (belowK_b (w := w) (Nat.le_refl _) W6 D _ _ (by omega) hK' rfl rfl)
  generalize W6.putObj D (.deferred none) = W7 at *
  have z3 := u3.cell
  have z4 := u4.cell
  refine ⟨.tuple #[.slice A' N c', .int .i64 0], by simp [results, Tryz.results59, go_sem, z3, z4], ?_⟩
  exact cver_ok hz.out (by rw [hN]; exact spanC2_row u2 (cverK_len _ _)) hbT
 case stop =>
  rintro D cd pre W hD ⟨k, hk, rfl⟩ ⟨⟨rfl, qs, x, e1, e2, e3, -⟩, ⟨i3, qs', x', e4, i4⟩, i5⟩ hK
  rw [e1] at e4
  obtain ⟨rfl, hx'⟩ := List.append_inj' e4 rfl
  obtain rfl := List.singleton_inj.1 hx'
  clear e4 hx'
  have hz : cverC ls = linkC ls x.val := by
   have hkl : k = qs.length + 1 := by have := congrArg List.length e1; rw [finT_len N k hk, List.length_append] at this; exact this
   have hxv : x.val = qs.length := by
    have h1 : (finT N k)[qs.length]? = (qs ++ [x])[qs.length]? := by rw [e1]
    rw [List.getElem?_append_right (Nat.le_refl _), Nat.sub_self, finT, List.getElem?_take, if_pos (by omega), List.getElem?_eq_getElem (by simp; omega)] at h1
    simp at h1
    rw [← h1]
   have hpre : firstC ls x.val = 0 := first_all ls x.val fun j hj => by
    have hm := finT_mem N k j hk (by omega)
    rw [e1] at hm
    rcases List.mem_append.1 hm with h | h
    · exact e2 _ h
    · have := List.mem_singleton.1 h
      rw [← this] at hj
      exact absurd hj (Nat.lt_irrefl _)
   rw [hCC.out]
   exact first_bad ls x.val N hpre e3 x.isLt
  generalize linkC ls x.val = C at *
  have c3 := i3.cell
  have c4 := i4.cell
  have hD0 : W4.heap.size ≤ D := hD
  have hg4 := hb4.size
  have n0 := hGn.out
  have n1 := hx3.lt
  replace hz := Lib.hid hz
  replace e3 := Lib.hid e3
  replace i3 := Lib.hid i3
  replace i4 := Lib.hid i4
  clear hu hcell hsl hk3 hA e1 e2
  gi_wp2
  have hne0 : D ≠ w.heap.size := by omega
  have hne1 : D ≠ w.heap.size + 1 := by omega
  refine ⟨by simp, .inl ⟨_, _, rfl, run_takeDeferred hK, ?_⟩⟩
  have u3 : Boxed (W.putObj D (.deferred none)) w.heap.size 28 (.slice none 0 0) := (World.putObj_heap_other (fun e => hne0 e.symm)).trans i3.out
  have u4 : Boxed (W.putObj D (.deferred none)) (w.heap.size + 1) 31 (.int .i64 C) := (World.putObj_heap_other (fun e => hne1 e.symm)).trans i4.out
  have hbT : Below w.heap.size w (W.putObj D (.deferred none)) := i5.trans (belowK_b (w := w) (Nat.le_refl _) W D _ _ (by omega) hK rfl rfl)
  generalize W.putObj D (.deferred none) = W7 at *
  have z3 := u3.cell
  have z4 := u4.cell
  exact ⟨.tuple #[.slice none 0 0, .int .i64 C], by simp [results, Tryz.results59, go_sem, z3, z4], cver_bad hz.out e3.out hbT⟩
set_option maxRecDepth 100000 in
theorem cverify_any (B : Nat) (u : Value) (ls : List LinkG) (w : World) (hu : SeesR w B u 3 ls.length (linkS ls)) (hB : B ≤ w.heap.size) (hn : ls.length ≤ 1048576) (hl : ∀ t ∈ ls, t.2.2.length ≤ 1048576) :
 Calls Tryz.prog 59 #[u] w (CVerP ls w) := by
 by_cases h8 : ls.length ≤ 8
 · exact callsIn_wide.1 (cver_in B u ls w hu hB h8 hl)
 · obtain ⟨A, c, rfl, -, -⟩ := hu.mk_
   have i0 : (8 : Int) < (ls.length : Int) := by omega
   have hC : Hid (cverC ls = 8) := by show _ = _; rw [cverC, if_pos (by omega)]
   clear hu hl
   go_enter Tryz.func59, Tryz.ntmps59
   go_wp2_with fail
   have hb8 := bgo (balloc w (.cells #[.slice none 0 0] 28)) (balloc _ (.cells #[.int .i64 8] 31))
   have z3 := ((Boxed.new w 28 (.slice none 0 0)).alloc (.cells #[.int .i64 8] 31)).cell
   have z4 := (Boxed.new (w.alloc (.cells #[.slice none 0 0] 28)) 31 (.int .i64 8)).cell
   rw [World.size_alloc] at z4
   generalize (w.alloc (.cells #[.slice none 0 0] 28)).alloc (.cells #[.int .i64 8] 31) = W7 at *
   refine bodyPost_ret (v := .tuple #[.slice none 0 0, .int .i64 8]) (by simp [results, Tryz.results59, go_sem, z3, z4]) rfl ?_
   exact cver_bad hC.out (by decide) hb8
def OwnRF (w : World) (base : Nat) (T : TypeId) (v : Value) (size n : Nat) (ss : List Spec) : Prop :=
 ss.length = n * size ∧ ∃ vs : List Value, w.ownsRow base T size v n vs ∧ ∀ (k : Nat) (s : Spec), ss[k]? = some s → ∃ u, vs[k]? = some u ∧ EltS w v u s ∧ From base u
theorem OwnRF.own {w : World} {base size n : Nat} {T : TypeId} {v : Value} {ss : List Spec} (h : OwnRF w base T v size n ss) : OwnR w base T v size n ss := by
 obtain ⟨h0, vs, h1, h2⟩ := h
 exact ⟨h0, vs, h1, fun k s hk => by obtain ⟨u, e1, e2, -⟩ := h2 k s hk; exact ⟨u, e1, e2⟩⟩
theorem OwnRF.nil (w : World) (base : Nat) (T : TypeId) (size : Nat) : OwnRF w base T (.slice none 0 0) size 0 [] := ⟨by simp, [], World.ownsRow_nil w base T size, fun k s hk => by simp at hk⟩
theorem OwnRF.below {w w' : World} {base size n : Nat} {T : TypeId} {v : Value} {ss : List Spec} (h : OwnRF w base T v size n ss) (hb : Below w.heap.size w w') : OwnRF w' base T v size n ss := by
 obtain ⟨h0, vs, h1, h2⟩ := h
 exact ⟨h0, vs, own_below h1 hb, fun k s hk => by obtain ⟨u, e1, e2, e3⟩ := h2 k s hk; exact ⟨u, e1, e2.below hb, e3⟩⟩
theorem wp_appRF {o : Oper} {a : Act} {w : World} {K : Act → World → Prop} {Q : Exit → Act → World → Prop} (s x : Operand) (T E : TypeId) (hT : Tryz.prog.underlying T = some (.slice E))
 (ho : o.op = .call { callee := .builtin .append, args := #[s, x], argTypes := #[T, T] }) (i : TypeInfo) (z : Value) (size bytes : Nat) (hi : Tryz.prog.info? E = some i) (hz : i.zero = some z)
 (hsz : i.size = size) (hby : i.bytes = bytes) (hzs : z.cells.size = size) (h0 : 0 < size) (hby2 : bytes ≤ 1024)
 (base : Nat) (v : Value) (n : Nat) (ss : List Spec) (hs : a.eval s = v) (hown : OwnRF w base E v size n ss) (B : Nat) (u : Value) (m : Nat) (vs : List Value) (ts : List Spec) (hx : a.eval x = u) (hr : Sees w B u size m vs)
 (htl : ts.length = m * size) (hel : ∀ (k : Nat) (t : Spec), ts[k]? = some t → ∃ y, vs[k]? = some y ∧ EltS w v y t ∧ From base y)
 (hlen : n + m ≤ 1048576) (hbase : base ≤ w.heap.size)
 (h : ∀ v' w', OwnRF w' base E v' size (n + m) (ss ++ ts) → Below base w w' → w.grownBy w' v.ownBlock → K (a.put o.dst v') w') : o.wp Tryz.prog a w K Q := by
 have hown' := OwnRF.own hown
 obtain ⟨hl0, xs, h1, h2⟩ := hown
 have h1c : ∀ y ∈ vs, y.oneCell' = true := by
  intro y hy
  obtain ⟨k, hk⟩ := List.mem_iff_getElem?.1 hy
  have hkl : k < ts.length := by
   have := (List.getElem?_eq_some_iff.1 hk).1
   rw [hr.1] at this; omega
  obtain ⟨y', e1, e2⟩ := hel k _ (List.getElem?_eq_getElem hkl)
  rw [hk] at e1
  cases e1
  exact e2.1.fit.one
 refine wp_append_sees s x T ho base E i z size bytes hT hi hz hsz hby hzs h0 v n xs hs h1 B u m vs hx hr h1c (by unfold maxLen; omega) (Nat.le_trans (Nat.mul_le_mul hlen hby2) (by omega)) hbase ?_
 intro v' w' g1 g2 g3
 refine h v' w' ⟨by rw [List.length_append, hl0, htl, Nat.add_mul], xs ++ vs, g1, fun k t hk => ?_⟩ (below_ownR hown' g2 hbase) g2
 have hl1 : xs.length = ss.length := by rw [h1.1, hl0]
 have hst : ∀ {y : Value} {t : Spec}, EltS w v y t → EltS w' v' y t := fun {y t} hy => by
  cases t with
  | val x => exact hy
  | byt l => exact ⟨hy.grown g2, fun hm k hk => by
   rcases g3 with e | e
   · rw [e]; exact hy.2 hm k hk
   · rw [e]; intro e2; cases e2; exact absurd (hy.1.blk hm _ hk) (by omega)⟩
 by_cases hkl : k < ss.length
 · rw [List.getElem?_append_left hkl] at hk
   obtain ⟨y, e1, e2⟩ := h2 k t hk
   exact ⟨y, by rw [List.getElem?_append_left (by omega)]; exact e1, hst e2.1, e2.2⟩
 · rw [List.getElem?_append_right (by omega)] at hk
   obtain ⟨y, e1, e2⟩ := hel (k - ss.length) t hk
   exact ⟨y, by rw [List.getElem?_append_right (by omega), hl1]; exact e1, hst e2.1, e2.2⟩
theorem step_appRF {ops : Array Oper} {o : Oper} {a : Act} {w : World} {K : Act → World → Prop} {Q : Exit → Act → World → Prop} {X : Prop} (hgd : o.guard = none) (s x : Operand) (T E : TypeId) (hT : Tryz.prog.underlying T = some (.slice E))
 (ho : o.op = .call { callee := .builtin .append, args := #[s, x], argTypes := #[T, T] }) (i : TypeInfo) (z : Value) (size bytes : Nat) (hi : Tryz.prog.info? E = some i) (hz : i.zero = some z)
 (hsz : i.size = size) (hby : i.bytes = bytes) (hzs : z.cells.size = size) (h0 : 0 < size) (hby2 : bytes ≤ 1024)
 (base : Nat) (v : Value) (n : Nat) (ss : List Spec) (hs : a.eval s = v) (hown : OwnRF w base E v size n ss) (B : Nat) (u : Value) (m : Nat) (vs : List Value) (ts : List Spec) (hx : a.eval x = u) (hr : Sees w B u size m vs)
 (htl : ts.length = m * size) (hel : ∀ (k : Nat) (t : Spec), ts[k]? = some t → ∃ y, vs[k]? = some y ∧ EltS w v y t ∧ From base y)
 (hlen : n + m ≤ 1048576) (hbase : base ≤ w.heap.size)
 (h : ∀ v' w', OwnRF w' base E v' size (n + m) (ss ++ ts) → Below base w w' → w.grownBy w' v.ownBlock → K (a.put o.dst v') w') : if Region.wanted o (yielded ops a.tmps) = true then Oper.wp Tryz.prog o a w K Q else X := by
 have hw : Region.wanted o (yielded ops a.tmps) = true := by simp [Region.wanted, hgd]
 rw [if_pos hw]
 exact wp_appRF s x T E hT ho i z size bytes hi hz hsz hby hzs h0 hby2 base v n ss hs hown B u m vs ts hx hr htl hel hlen hbase h
def CopyP (ls : List LinkG) (w : World) (e : Ending) (w' : World) : Prop :=
 ∃ v, e = .returned v ∧ OwnRF w' w.heap.size 101 v 3 ls.length (linkS ls) ∧ Below w.heap.size w w'
theorem link_infoC : (Tryz.prog.info? 101).map (fun i => (i.zero, i.size, i.bytes)) = some (some (.agg #[.slice none 0 0, .slice none 0 0, .slice none 0 0]), 3, 72) := by kernel_rfl
theorem link_eltsF {w : World} {base : Nat} {v a b c : Value} {t : LinkG} (h1 : EltS w v a (.byt t.1)) (h2 : EltS w v b (.byt t.2.1)) (h3 : EltS w v c (.byt t.2.2)) (f1 : From base a) (f2 : From base b) (f3 : From base c) : ∀ (k : Nat) (s : Spec), [Spec.byt t.1, .byt t.2.1, .byt t.2.2][k]? = some s → ∃ y, [a, b, c][k]? = some y ∧ EltS w v y s ∧ From base y := by
 intro k s h
 match k, h with
 | 0, h => cases h; exact ⟨_, rfl, h1, f1⟩
 | 1, h => cases h; exact ⟨_, rfl, h2, f2⟩
 | 2, h => cases h; exact ⟨_, rfl, h3, f3⟩
 | k + 3, h => simp at h
theorem linkS_take (ls : List LinkG) (k : Nat) (t : LinkG) (h : ls[k]? = some t) : linkS (ls.take (k + 1)) = linkS (ls.take k) ++ [.byt t.1, .byt t.2.1, .byt t.2.2] := by
 rw [List.take_add_one, linkS_append, h]
 rfl
set_option maxRecDepth 100000 in
set_option maxHeartbeats 8000000 in
theorem ccopy_any (B : Nat) (u : Value) (ls : List LinkG) (w : World) (hu : SeesR w B u 3 ls.length (linkS ls)) (hB : B ≤ w.heap.size) (hn : ls.length ≤ 1000) (hl : ∀ t ∈ ls, t.1.length ≤ 1048576 ∧ t.2.1.length ≤ 1048576 ∧ t.2.2.length ≤ 1048576) :
 Calls Tryz.prog 65 #[u] w (CopyP ls w) := by
 obtain ⟨A, c, rfl, -, -⟩ := hu.mk_
 obtain ⟨ti, hti, htz, hts, htb⟩ := info_parts link_infoC
 replace hti := Lib.hid hti
 replace htz := Lib.hid htz
 replace hts := Lib.hid hts
 replace htb := Lib.hid htb
 replace hu := Lib.hid (hu.more hB)
 replace hl := Lib.hid hl
 go_enter Tryz.func65, Tryz.ntmps65
 go_wp2_with fail
 go_loopw [3, 8] (fun r t wr => ∃ k : Nat, k ≤ ls.length ∧ t = .int .i64 k ∧ Hid (OwnRF wr w.heap.size 101 r 3 k (linkS (ls.take k))) ∧ Hid (Below w.heap.size w wr)) (fun _ t _ => ls.length - (intOf t).toNat)
 case atStart => exact ⟨0, by omega, rfl, OwnRF.nil _ _ _ _, Below.refl _ _⟩
 case round =>
  obtain ⟨k, hk, rfl, ho, hb⟩ := hrel
  obtain ⟨Ar, cr, rfl, -, -⟩ := ho.out.own.sees.mk_
  by_cases hlt : k < ls.length
  · have i1 : (k : Int) < (ls.length : Int) := by omega
    have i2 : (0 : Int) ≤ (k : Int) := by omega
    have hdk : ls[k]? = some (linkT ls k) := by rw [linkT, List.getD_eq_getElem?_getD, List.getElem?_eq_getElem hlt]; rfl
    have hst : Hid _ := Lib.hid (linkS_take ls k _ hdk)
    obtain ⟨b, o, A1, c1, A2, c2, A3, c3, eA, hbB, z1, s1, z2, s2, z3, s3⟩ := link_at ((hu.out.below hb.out).more hb.out.size) k (linkT ls k) hdk
    subst eA
    obtain ⟨l1, l2, l3⟩ := hl.out _ (List.mem_of_getElem? hdk)
    clear hdk
    generalize linkT ls k = t at *
    have hb5 := balloc wr (.cells #[.slice A1 t.1.length c1, .slice A2 t.2.1.length c2, .slice A3 t.2.2.length c3] 101)
    have x5 := Box.new wr 101 [.slice A1 t.1.length c1, .slice A2 t.2.1.length c2, .slice A3 t.2.2.length c3]
    change Box (wr.alloc (.cells #[.slice A1 t.1.length c1, .slice A2 t.2.1.length c2, .slice A3 t.2.2.length c3] 101)) _ _ _ at x5
    replace s1 := Lib.hid (seesB_of s1 (Nat.le_refl _) hb5)
    replace s2 := Lib.hid (seesB_of s2 (Nat.le_refl _) hb5)
    replace s3 := Lib.hid (seesB_of s3 (Nat.le_refl _) hb5)
    have hlo : Hid (∀ j, (Value.slice Ar k cr).ownBlock = some j → j < wr.heap.size) := fun j hj => (ho.out.own.lt j hj).2
    have hz5 := Lib.hid hb5.size
    replace ho := Lib.hid (ho.out.below hb5)
    replace hb := Lib.hid (bgo hb.out hb5)
    replace x5 := Lib.hid x5
    clear hb5 hbB
    replace l1 := Lib.hid l1
    replace l2 := Lib.hid l2
    replace l3 := Lib.hid l3
    go_upto_region 5 with (fail)
    clear z1 z2 z3
    generalize wr.alloc (.cells #[.slice A1 t.1.length c1, .slice A2 t.2.1.length c2, .slice A3 t.2.2.length c3] 101) = W0 at *
    generalize wr.heap.size = g5 at *
    have K : Hid (∀ W, Below W0.heap.size W0 W → W.cell? ⟨g5, 0, none⟩ = some (.slice A1 t.1.length c1) ∧ W.cell? ⟨g5, 1, none⟩ = some (.slice A2 t.2.1.length c2) ∧ W.cell? ⟨g5, 2, none⟩ = some (.slice A3 t.2.2.length c3)) := fun W hW => ⟨(x5.out.below hW).cell 0, (x5.out.below hW).cell 1, (x5.out.below hW).cell 2⟩
    obtain ⟨k1, k2, k3⟩ := K.out W0 (Below.refl _ _)
    have hc1 : Hid (∀ W, Below W0.heap.size W0 W → Calls Tryz.prog 66 #[.slice A1 t.1.length c1] W (Gives t.1 W)) := fun W hW => bclone_any W.heap.size _ t.1 W (seesB_of s1.out (Nat.le_refl _) hW) (Nat.le_refl _) (by have := l1.out; omega)
    have hc2 : Hid (∀ W, Below W0.heap.size W0 W → Calls Tryz.prog 66 #[.slice A2 t.2.1.length c2] W (Gives t.2.1 W)) := fun W hW => bclone_any W.heap.size _ t.2.1 W (seesB_of s2.out (Nat.le_refl _) hW) (Nat.le_refl _) (by have := l2.out; omega)
    have hc3 : Hid (∀ W, Below W0.heap.size W0 W → Calls Tryz.prog 66 #[.slice A3 t.2.2.length c3] W (Gives t.2.2 W)) := fun W hW => bclone_any W.heap.size _ t.2.2 W (seesB_of s3.out (Nat.le_refl _) hW) (Nat.le_refl _) (by have := l3.out; omega)
    clear s1 s2 s3 l1 l2 l3
    have hcr : Hid (k + 1 ≤ 1048576) := by show _ ≤ _; omega
    have hlt5 : ∀ j, (Value.slice Ar k cr).ownBlock = some j → j < W0.heap.size := fun j hj => by have := hlo.out j hj; have := hz5.out; omega
    have hne5 : Hid (∀ j, (Value.slice Ar k cr).ownBlock = some j → j ≠ g5) := fun j hj => by have := hlo.out j hj; omega
    go_region_held3 (fun W' : World => W'.cell? ⟨g5, 0, none⟩ = some (.slice A1 t.1.length c1) ∧ W'.cell? ⟨g5, 1, none⟩ = some (.slice A2 t.2.1.length c2) ∧ W'.cell? ⟨g5, 2, none⟩ = some (.slice A3 t.2.2.length c3))
     (first | exact ⟨kk1, kk2, kk3⟩ | (with_reducible exact K.out _ (by (repeat (first | exact Below.refl _ _ | (refine bgo ?_ (balloc _ _)) | (refine bgo ?_ (bdrew _)) | (refine bgo ?_ (by assumption)))))) | (go_keep; done))
     (first
      | (refine step_appRF (by rfl) _ _ 26 101 Tryz.underlying26 (by rfl) ti _ 3 72 hti.out htz.out hts.out htb.out (by rfl) (by omega) (by omega) w.heap.size _ k _ (by rfl) ho2.out _ _ 1 _ [.byt t.1, .byt t.2.1, .byt t.2.2] (by rfl) hrec.out (by rfl) hel.out hcr.out hb3.out.size ?_; intro v' w' hW2 hb4 hg4
         obtain ⟨kk1, kk2, kk3, -, -, -⟩ := box3_cells (show Box w' g5 101 [.slice A1 t.1.length c1, .slice A2 t.2.1.length c2, .slice A3 t.2.2.length c3] from (hg4.block g5 x5a.lt (fun e => hne5.out _ e.symm rfl)).trans x5a))
      | (go_at_call 66; have _q := m8; (with_reducible refine (hc3.out _ (by (repeat (first | exact Below.refl _ _ | (refine bgo ?_ (balloc _ _)) | (refine bgo ?_ (bdrew _)) | (refine bgo ?_ (by assumption)))))).mono ?_); rintro e w9 ⟨v9, rfl, o9, hb9⟩
         obtain ⟨B3, d3, rfl, -, -⟩ := o9.sees.mk_
         have hb79 := bgo hb8 hb9
         have hb09 := bgo hb07 hb79
         have hal := balloc w9 (.cells #[.slice B1 t.1.length d1, .slice B2 t.2.1.length d2, .slice B3 t.2.2.length d3] 101)
         have hrec : Hid (Sees (w9.alloc (.cells #[.slice B1 t.1.length d1, .slice B2 t.2.1.length d2, .slice B3 t.2.2.length d3] 101)) (w9.heap.size + 1) (.slice (some ⟨w9.heap.size, 0, none⟩) 1 1) 3 1 [.slice B1 t.1.length d1, .slice B2 t.2.1.length d2, .slice B3 t.2.2.length d3]) := rec_lit w9 101 [.slice B1 t.1.length d1, .slice B2 t.2.1.length d2, .slice B3 t.2.2.length d3]
         have ho2 := Lib.hid (ho.out.below (bgo hb09 hal))
         have x5a := x5.out.below (bgo hb09 hal)
         have hel := Lib.hid (link_eltsF (base := w.heap.size) (t := t) (EltS.of_from (v := .slice Ar k cr) (seesB_of m7 (Nat.le_refl _) (bgo hb79 hal)) (o7.from.mono hb07s) hlt5) (EltS.of_from (seesB_of m8 (Nat.le_refl _) (bgo hb9 hal)) (o8.from.mono (bgo hb07 (Below.refl _ _)).size) hlt5) (EltS.of_from (seesB_of o9.sees (Nat.le_refl _) hal) (o9.from.mono (bgo hb07 hb8).size) hlt5) (o7.from.mono (Nat.le_trans hb.out.size hb07s)) (o8.from.mono (Nat.le_trans hb.out.size (bgo hb07 (Below.refl _ _)).size)) (o9.from.mono (Nat.le_trans hb.out.size (bgo hb07 hb8).size)))
         have hb3 := Lib.hid (bgo (bgo hb.out hb09) hal)
         clear hal)
      | (go_at_call 66; have _q := m7; (with_reducible refine (hc2.out _ (by (repeat (first | exact Below.refl _ _ | (refine bgo ?_ (balloc _ _)) | (refine bgo ?_ (bdrew _)) | (refine bgo ?_ (by assumption)))))).mono ?_); rintro e w8 ⟨v8, rfl, o8, hb8⟩
         obtain ⟨B2, d2, rfl, -, -⟩ := o8.sees.mk_
         have m8 := o8.sees)
      | (go_at_call 66; (with_reducible refine (hc1.out W0.drew (bdrew W0)).mono ?_); rintro e w7 ⟨v7, rfl, o7, hb7⟩
         obtain ⟨B1, d1, rfl, -, -⟩ := o7.sees.mk_
         have hb07s := (bdrew W0).size
         have hb07 := bgo (bdrew W0) hb7
         have m7 := o7.sees)
      | (go_at_call 66; (with_reducible refine (hc1.out W0 (Below.refl _ _)).mono ?_); rintro e w7 ⟨v7, rfl, o7, hb7⟩
         obtain ⟨B1, d1, rfl, -, -⟩ := o7.sees.mk_
         have hb07s := Nat.le_refl W0.heap.size
         have hb07 := hb7
         have m7 := o7.sees))
    all_goals
     replace hW2 : Hid (OwnRF w' w.heap.size 101 v' 3 (k + 1) (linkS (ls.take (k + 1)))) := by show OwnRF _ _ _ _ _ _ _; rw [hst.out]; exact hW2
     have hb4 := Lib.hid (hb3.out.trans hb4)
     go_wp2_with fail
     go_roundw
     case rel => first | exact ⟨k + 1, by omega, by go_num, hW2, hb4⟩ | ((repeat apply Exists.intro); exact ⟨⟨k + 1, by omega, by go_num, hW2, hb4⟩, rfl⟩)
     case measure => simp [intOf]; omega
  · obtain rfl : k = ls.length := by omega
    have i1 : ¬ (ls.length : Int) < (ls.length : Int) := by omega
    have ho' := ho.out
    rw [List.take_of_length_le (Nat.le_refl _)] at ho'
    replace ho' := Lib.hid ho'
    go_wp2_with fail
    go_returns
    exact ⟨_, rfl, ho'.out, hb.out⟩
theorem boxn {w : World} {g : Nat} {T : TypeId} {xs : List Value} (h : g = w.heap.size) : Box (w.alloc (.cells xs.toArray T)) g T xs := by subst h; exact Box.new w T xs
theorem box_lset3 {W : World} {g : Nat} {T : TypeId} {a b c : Value} (h : Box W g T [a, b, c]) (x y z : Value) : Box (((W.setCell ⟨g, 0, none⟩ x).setCell ⟨g, 1, none⟩ y).setCell ⟨g, 2, none⟩ z) g T [x, y, z] := by
 have k := ((h.set 0 x).set 1 y).set 2 z
 simpa only [List.set_cons_zero, List.set_cons_succ] using k
theorem SeesR.cut {w : World} {B size n c a b : Nat} {A : Option Addr} {ss : List Spec} (h : SeesR w B (.slice A n c) size n ss) (hab : a ≤ b) (hb : b ≤ n) :
 SeesR w B (.slice (cutA A c a size) (b - a) (c - a)) size (b - a) ((ss.drop (a * size)).take ((b - a) * size)) := by
 obtain ⟨h0, vs, hs, hv⟩ := h
 have hm : (b - a) * size + a * size ≤ n * size := by
  rw [← Nat.add_mul]; exact Nat.mul_le_mul_right _ (by omega)
 refine ⟨by rw [List.length_take, List.length_drop, h0]; omega, _, hs.cut hab hb, fun k s hk => ?_⟩
 have hkl : k < (b - a) * size := by
  have := (List.getElem?_eq_some_iff.1 hk).1
  rw [List.length_take] at this; omega
 rw [List.getElem?_take, if_pos hkl, List.getElem?_drop] at hk ⊢
 exact hv _ s hk
theorem link_drop3 (ls : List LinkG) (a : Nat) : (linkS ls).drop (a * 3) = linkS (ls.drop a) := by
 induction a generalizing ls with
 | zero => simp
 | succ a ih =>
   cases ls with
   | nil => simp [linkS]
   | cons t r =>
     rw [List.drop_succ_cons, ← ih r, Nat.succ_mul, Nat.add_comm, ← List.drop_drop]
     rfl
theorem link_take3 (ls : List LinkG) (a : Nat) : (linkS ls).take (a * 3) = linkS (ls.take a) := by
 induction a generalizing ls with
 | zero => simp [linkS]
 | succ a ih =>
   cases ls with
   | nil => simp [linkS]
   | cons t r =>
     rw [List.take_succ_cons, Nat.succ_mul]
     show ([Spec.byt t.1, .byt t.2.1, .byt t.2.2] ++ linkS r).take (a * 3 + 3) = [Spec.byt t.1, .byt t.2.1, .byt t.2.2] ++ linkS (r.take a)
     rw [← ih r, Nat.add_comm (a * 3) 3, List.take_append, List.take_of_length_le (by simp)]
     simp
theorem links_cut {w : World} {B n c a b : Nat} {A : Option Addr} {ls : List LinkG} (h : SeesR w B (.slice A n c) 3 n (linkS ls)) (hn : ls.length = n) (hab : a ≤ b) (hb : b ≤ n) :
 SeesR w B (.slice (cutA A c a 3) (b - a) (c - a)) 3 (b - a) (linkS ((ls.drop a).take (b - a))) := by
 have := h.cut hab hb
 rwa [link_drop3, link_take3] at this
section
variable {w W : World} {g n c base size : Nat} {T : TypeId} {v : Value} {ss : List Spec}
theorem OwnRF.at_ (h : OwnRF w base T v size n ss) (h0 : 0 < n) : ∃ g c, v = .slice (some ⟨g, 0, none⟩) n c ∧ base ≤ g ∧ g < w.heap.size ∧ n ≤ c ∧ c ≤ maxLen := by
 have hlt := h.own.lt
 obtain ⟨_, vs, h1, _⟩ := h
 rcases h1.2 with ⟨_, hz⟩ | ⟨g, cap, cur, rfl, hb, hg, hc1, hc2, _⟩
 · omega
 · exact ⟨g, cap, rfl, hb, (hlt g rfl).2, hc1, hc2⟩
theorem elt_grown {u : Value} {s : Spec} (h : EltS w v u s) (hg : w.grownBy W v.ownBlock) : EltS W v u s := by
 cases s with
 | val x => exact h
 | byt l => exact ⟨Elt.grown h hg, h.2⟩
theorem OwnRF.put {u : Value} {s : Spec} {j : Nat} (h : OwnRF w base T (.slice (some ⟨g, 0, none⟩) n c) size n ss) (hj : j < n * size) (he : EltS w (.slice (some ⟨g, 0, none⟩) n c) u s) (hf : From base u) :
 OwnRF (w.setCell ⟨g, j, none⟩ u) base T (.slice (some ⟨g, 0, none⟩) n c) size n (ss.set j s) := by
 obtain ⟨h0, vs, h1, h2⟩ := h
 have hg := setCell_grown w g j u
 rcases h1.2 with ⟨e, _⟩ | ⟨g', cap, cur, e, hb, hh, hc1, hc2, hcs, htk⟩
 · cases e
 · injection e with e1 _ e3
   injection e1 with e1
   injection e1 with e1
   subst e1 e3
   have hB : Box w g T cur.toList := hh
   have hB' := hB.set j u
   have hvl : vs.length = n * size := h1.1
   refine ⟨by rw [List.length_set, h0], vs.set j u, ⟨by rw [List.length_set, hvl], .inr ⟨g, c, (cur.toList.set j u).toArray, rfl, hb, hB', hc1, hc2, by simp [hcs], ?_⟩⟩, fun k t hk => ?_⟩
   · rw [← htk]
     simp [List.take_set]
   · by_cases hkj : k = j
     · subst hkj
       rw [List.getElem?_set_self (by omega)] at hk ⊢
       cases hk
       exact ⟨u, rfl, elt_grown he hg, hf⟩
     · rw [List.getElem?_set_ne (fun e => hkj e.symm)] at hk ⊢
       obtain ⟨y, e1, e2, e3⟩ := h2 k t hk
       exact ⟨y, e1, elt_grown e2 hg, e3⟩
theorem OwnRF.frozen (h : OwnRF w base T (.slice (some ⟨g, 0, none⟩) n c) size n ss) (j : Nat) : w.frozen? ⟨g, j, none⟩ = false := by
 obtain ⟨_, vs, h1, _⟩ := h
 rcases h1.2 with ⟨e, _⟩ | ⟨g', cap, cur, e, _, hh, _⟩
 · cases e
 · injection e with e1 _ e3
   injection e1 with e1
   injection e1 with e1
   subst e1
   have hB : Box w g T cur.toList := hh
   exact hB.frozen j
theorem OwnRF.cell {j : Nat} {s : Spec} (h : OwnRF w base T (.slice (some ⟨g, 0, none⟩) n c) size n ss) (h0 : 0 < n) (hj : ss[j]? = some s) : ∃ u, w.cell? ⟨g, j, none⟩ = some u ∧ EltS w (.slice (some ⟨g, 0, none⟩) n c) u s ∧ From base u := by
 obtain ⟨_, vs, h1, h2⟩ := h
 obtain ⟨u, e1, e2, e3⟩ := h2 j s hj
 obtain ⟨b, o, e4, hb, hcell⟩ := (Sees.of_own h1).at_ h0
 injection e4 with e5
 injection e5 with e6 e7
 subst e6 e7
 have := hcell j u e1
 rw [Nat.zero_add] at this
 exact ⟨u, this, e2, e3⟩
end
theorem linkT_get (ls : List LinkG) (i : Nat) (h : i < ls.length) : ls[i]? = some (linkT ls i) := by rw [linkT, List.getD_eq_getElem?_getD, List.getElem?_eq_getElem h]; rfl
def LkS (w : World) (v : Value) (W : World) : Prop :=
 ∃ ls : List LinkG, SeesR W W.heap.size v 3 ls.length (linkS ls) ∧ ls.length ≤ 8 ∧ (∀ t ∈ ls, t.1.length ≤ 2048 ∧ t.2.1.length ≤ 2048 ∧ t.2.2.length ≤ 2048) ∧ Below w.heap.size w W
theorem LkS.drew {w W : World} {v : Value} (h : LkS w v W) : LkS w v W.drew := by
 obtain ⟨ls, h1, h2, h3, h4⟩ := h
 exact ⟨ls, (h1.below (bdrew W)).more (bdrew W).size, h2, h3, bgo h4 (bdrew W)⟩
def addC (ls : List LinkG) (t : LinkG) : Int := if nextC ls t.2.1 = 0 then dverC t.1 (nextG ls t.2.1) t.2.2 else nextC ls t.2.1
def addL (ls : List LinkG) (t : LinkG) : List LinkG := if addC ls t = 0 then ls ++ [t] else []
def addV (ls : List LinkG) (t : LinkG) : Int × Int := if addC ls t = 0 then (dverLo t.1 (nextG ls t.2.1) t.2.2, dverHi t.1 (nextG ls t.2.1) t.2.2) else (0, 0)
section
variable {w w' : World} {base n size : Nat} {T : TypeId} {v : Value} {ss : List Spec}
theorem OwnR.poke {G j : Nat} {T' : TypeId} {v' : Value} {xs : List Value} (h : OwnR w base T v size n ss) (hG : G < base) (hbx : Box w G T' xs) (hno : NoByte xs) : OwnR (w.setCell ⟨G, j, none⟩ v') base T v size n ss := by
 have hlt := h.lt
 obtain ⟨h0, vs, h1, h2⟩ := h
 have hne : v.ownBlock ≠ some G := fun e => by have := (hlt G e).1; omega
 refine ⟨h0, vs, h1.kept (setCell_grown w G j v') (.inr hne), fun k s hk => ?_⟩
 obtain ⟨u, e1, e2⟩ := h2 k s hk
 refine ⟨u, e1, ?_⟩
 cases s with
 | val x => exact e2
 | byt l => exact ⟨SeesB.more (e2.1.stay fun hl k hk p hp => World.cell?_setCell_other w _ p v' (fun e => e2.1.notin hbx hno hl (by rw [hk, ← hp, ← e]))) (by simp [World.setCell]), e2.2⟩
theorem before {w7 X w8 : World} (h : Below w7.heap.size w7 X) (h8 : Below X.heap.size X w8) : w7.heap.size ≤ X.heap.size := h.size
end
end Go.Proofs.YtgehkgjllhkhoaaGreat

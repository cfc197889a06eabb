/- Contracts of sectimecase's Within and Tape: New, Next, Int, Range, Span. Conditions: the numbers are seen below the tape's block; small bounds. -/
import Derived.Test.YtiiaghmdajdbbaaQS
import Derived.BigQuiet
namespace Go.Proofs.Ytiiaghmdajdbbaa
open Go Go.RowKit
set_option linter.unusedVariables false
set_option linter.unusedSimpArgs false
attribute [local go_sem ↓] Go.wp_at_zero Go.wp_at_succ
theorem kwithin_any (v m : Int) (hm : 1 ≤ m) (hm2 : m ≤ 4294967296) (w : World) :
    Calls Try.prog 8 #[.int .i64 v, .int .i64 m] w fun e w' => e = .returned (.int .i64 (v % m)) ∧ w' = w := by
  have hne : m ≠ 0 := by omega
  have e1 := Int.emod_nonneg v hne
  have e2 := Int.emod_lt_of_pos v (show 0 < m by omega)
  have hlt : -m < v.tmod m ∧ v.tmod m < m := ⟨by have := Int.lt_tmod_of_pos v (show 0 < m by omega); omega, Int.tmod_lt_of_pos v (by omega)⟩
  have ht : v % m = if v.tmod m < 0 then v.tmod m + m else v.tmod m := by
    have := Int.tmod_eq_emod (a := v) (b := m)
    rw [this] at hlt ⊢
    split at hlt <;> split <;> split <;> omega
  rw [ht]
  clear ht e1 e2
  have hm0 : (m == 0) = false := by rw [beq_eq_false_iff_ne]; exact hne
  by_cases hr : v.tmod m < 0
  · go_enter Try.func8, Try.ntmps8
    go_wp2_with fail
    go_returns
    exact ⟨ret_int (by simp), rfl⟩
  · go_enter Try.func8, Try.ntmps8
    go_wp2_with fail
    go_returns
    exact ⟨ret_int (by simp), rfl⟩
def SeesT (w : World) (B : Nat) (v : Value) (l : List Int) : Prop := Sees w B v 1 l.length (l.map fun x => Value.int .i64 x)
theorem SeesT.mk_ {w : World} {B : Nat} {v : Value} {l : List Int} (h : SeesT w B v l) : ∃ A c, v = .slice A l.length c ∧ l.length ≤ c ∧ c ≤ maxLen := Sees.mk_ h
theorem SeesT.at_ {w : World} {B n c : Nat} {A : Option Addr} {l : List Int} (h : SeesT w B (.slice A n c) l) (hn : 0 < l.length) : ∃ b o, A = some ⟨b, o, none⟩ ∧ b < B ∧ ∀ j, j < l.length → w.cell? ⟨b, o + j, none⟩ = some (.int .i64 (l.getD j 0)) := by
  obtain ⟨A', c', e, -, -⟩ := h.mk_
  injection e with e1 e2 e3
  subst e1 e2 e3
  obtain ⟨b, o, e, hb, hc⟩ := Sees.at_ h hn
  refine ⟨b, o, e, hb, fun j hj => hc j _ ?_⟩
  rw [List.getElem?_map, List.getElem?_eq_getElem hj, List.getD_eq_getElem?_getD, List.getElem?_eq_getElem hj]
  rfl
/-- The tape's place behind a number. -/
def stepK (l : List Int) (k : Nat) : Nat := if k < l.length then k + 1 else k
theorem stepK_le {l : List Int} {k : Nat} (h : k ≤ l.length) : stepK l k ≤ l.length := by unfold stepK; split <;> omega
/-- A tape in memory: its block, the numbers, its place. -/
def TapeAt (w : World) (g : Nat) (u : Value) (l : List Int) (k : Nat) : Prop := Box w g 56 [u, .int .i64 k] ∧ SeesT w g u l ∧ k ≤ l.length
theorem TapeAt.grown {w w' : World} {g : Nat} {u : Value} {l : List Int} {k : Nat} (h : TapeAt w g u l k) (hb : Below w.heap.size w w') : TapeAt w' g u l k :=
  ⟨h.1.below hb, Sees.below h.2.1 (hb.mono (Nat.le_of_lt h.1.lt)), h.2.2⟩
def TapeP (g : Nat) (u : Value) (l : List Int) (k : Nat) (x : Value) (W : World) (e : Ending) (w' : World) : Prop :=
  e = .returned x ∧ TapeAt w' g u l k ∧ W.grownBy w' (some g)
theorem poke_draw (w : World) (g a b : Nat) (v : Value) : Below g w (((w.drewN a).setCell ⟨g, 1, none⟩ v).drewN b) := below_drewN (((below_drewN (Below.refl _ _) a)).setCell (p := ⟨g, 1, none⟩) (Nat.le_refl g) _) b
theorem poke_grown (w : World) (g a b : Nat) (v : Value) : w.grownBy (((w.drewN a).setCell ⟨g, 1, none⟩ v).drewN b) (some g) := ggo (grown_of_below (below_drewN (Below.refl _ _) a) _) (ggo (setCell_grown _ g 1 v) (grown_of_below (below_drewN (Below.refl _ _) b) _))
set_option maxRecDepth 100000 in
theorem tnext_any (g : Nat) (u : Value) (l : List Int) (k : Nat) (w : World) (h : TapeAt w g u l k) :
    Calls Try.prog 35 #[.pointer (some ⟨g, 0, none⟩)] w (TapeP g u l (stepK l k) (.int .i64 (l.getD k 0)) w) := by
  obtain ⟨hx, hs, hk⟩ := h
  obtain ⟨A, c, rfl, hc1, hc2⟩ := hs.mk_
  have c0 : w.cell? ⟨g, 0, none⟩ = some (.slice A l.length c) := hx.cell 0
  have c1 : w.cell? ⟨g, 1, none⟩ = some (.int .i64 k) := hx.cell 1
  have f1 := hx.frozen 1
  have hm := hc1
  unfold maxLen at hc2
  by_cases hlt : k < l.length
  · obtain ⟨b, o, rfl, hb, hcell⟩ := hs.at_ (by omega)
    have d0 := hcell k hlt
    have i0 : ¬ (l.length : Int) ≤ (k : Int) := by omega
    have i1 : (0 : Int) ≤ (k : Int) := by omega
    have i2 : (k : Int) < (l.length : Int) := by omega
    have hK : stepK l k = k + 1 := by rw [stepK, if_pos hlt]
    rw [hK]
    have hx2 : Box (w.setCell ⟨g, 1, none⟩ (.int .i64 ((k : Int) + 1))) g 56 [.slice (some ⟨b, o, none⟩) l.length c, .int .i64 ((k + 1 : Nat) : Int)] := by
      have := hx.set 1 (.int .i64 ((k : Int) + 1))
      simpa using this
    have e0 : (w.setCell ⟨g, 1, none⟩ (.int .i64 ((k : Int) + 1))).cell? ⟨g, 0, none⟩ = some (.slice (some ⟨b, o, none⟩) l.length c) := hx2.cell 0
    have e1 : (w.setCell ⟨g, 1, none⟩ (.int .i64 ((k : Int) + 1))).cell? ⟨g, 1, none⟩ = some (.int .i64 ((k : Int) + 1)) := hx2.cell 1
    have e2 : (w.setCell ⟨g, 1, none⟩ (.int .i64 ((k : Int) + 1))).cell? ⟨b, o + k, none⟩ = some (.int .i64 (l.getD k 0)) := (World.cell?_setCell_other w _ _ _ (fun e => by injection e; omega)).trans d0
    generalize l.getD k 0 = y at *
    replace hx2 := Lib.hid hx2
    replace hx := Lib.hid hx
    replace hs := Lib.hid hs
    replace hK := Lib.hid hK
    clear hcell
    go_enter Try.func35, Try.ntmps35
    go_wp2_with fail
    go_quiet (fail)
    go_wp2_with fail
    go_quiet (fail)
    go_wp2_with fail
    go_returns
    exact ⟨rfl, ⟨hx2.out, Sees.below hs.out (poke_draw _ _ _ _ _), by omega⟩, poke_grown _ _ _ _ _⟩
  · have hke : k = l.length := by omega
    have i0 : (l.length : Int) ≤ (k : Int) := by omega
    have hK : stepK l k = k := by rw [stepK, if_neg hlt]
    rw [hK]
    have hg : l.getD k 0 = 0 := by rw [List.getD_eq_getElem?_getD, List.getElem?_eq_none (by omega)]; rfl
    rw [hg]
    replace hx := Lib.hid hx
    replace hs := Lib.hid hs
    replace hK := Lib.hid hK
    replace hg := Lib.hid hg
    replace hke := Lib.hid hke
    go_enter Try.func35, Try.ntmps35
    go_wp2_with fail
    go_quiet (fail)
    go_wp2_with fail
    go_returns
    exact ⟨rfl, ⟨hx.out, Sees.below hs.out (below_drewN (Below.refl _ _) _), hk⟩, grown_of_below (below_drewN (Below.refl _ _) _) _⟩
theorem TapeAt.drew {w : World} {g : Nat} {u : Value} {l : List Int} {k : Nat} (h : TapeAt w g u l k) : TapeAt w.drew g u l k := h.grown (bdrew w)
set_option maxRecDepth 100000 in
theorem tint_any (g : Nat) (u : Value) (l : List Int) (k : Nat) (n : Int) (w : World) (h : TapeAt w g u l k) (hn : 1 ≤ n) (hn2 : n ≤ 1048576) :
    Calls Try.prog 25 #[.pointer (some ⟨g, 0, none⟩), .int .i64 n] w (TapeP g u l (stepK l k) (.int .i64 (l.getD k 0 % n)) w) := by
  have hnx := Lib.hid (tnext_any g u l k w h)
  have hwi := Lib.hid (fun W => kwithin_any (l.getD k 0) n hn (by omega) W)
  generalize l.getD k 0 = y at *
  clear h
  go_enter Try.func25, Try.ntmps25
  go_wp2_with fail
  refine hnx.out.mono ?_
  rintro e w1 ⟨rfl, h1, hg1⟩
  dsimp only
  go_wp2_with fail
  refine (hwi.out w1).mono ?_
  rintro e w2 ⟨rfl, rfl⟩
  replace h1 := Lib.hid h1
  dsimp only
  go_wp2_with fail
  go_returns
  exact ⟨rfl, h1.out, hg1⟩
set_option maxRecDepth 100000 in
theorem trange_any (g : Nat) (u : Value) (l : List Int) (k : Nat) (m : Int) (w : World) (h : TapeAt w g u l k) (hm : 0 ≤ m) (hm2 : m ≤ 1000) :
    Calls Try.prog 36 #[.pointer (some ⟨g, 0, none⟩), .int .i64 (-m), .int .i64 m] w (TapeP g u l (stepK l k) (.int .i64 (-m + l.getD k 0 % (m + m + 1))) w) := by
  have hin := tint_any g u l k (m + m + 1) w h (by omega) (by omega)
  have hr1 := Int.emod_nonneg (l.getD k 0) (show m + m + 1 ≠ 0 by omega)
  have hr2 := Int.emod_lt_of_pos (l.getD k 0) (show 0 < m + m + 1 by omega)
  generalize l.getD k 0 % (m + m + 1) = y at *
  replace hin := Lib.hid hin
  clear h
  go_enter Try.func36, Try.ntmps36
  go_wp2_with fail
  refine hin.out.mono ?_
  rintro e w1 ⟨rfl, h1, hg1⟩
  replace h1 := Lib.hid h1
  dsimp only
  go_wp2_with fail
  go_returns
  exact ⟨rfl, h1.out, hg1⟩
theorem grown_set2 {w W : World} {g g4 : Nat} (h : w.grownBy W (some g)) (hg : w.heap.size ≤ g4) (x y : Value) : w.grownBy ((W.setCell ⟨g4, 0, none⟩ x).setCell ⟨g4, 1, none⟩ y) (some g) := by
  have b := ((Below.refl g4 W).setCell (p := ⟨g4, 0, none⟩) (Nat.le_refl _) x).setCell (p := ⟨g4, 1, none⟩) (Nat.le_refl _) y
  exact ⟨b.os.trans h.os, b.tape.trans h.tape, b.output.trans h.output, Nat.le_trans h.size b.size, fun k hk hne => (b.block k (by omega)).trans (h.block k hk hne)⟩
theorem tape_set2 {W : World} {g g4 : Nat} {u : Value} {l : List Int} {k : Nat} (h : TapeAt W g u l k) (hg : g < g4) (x y : Value) : TapeAt ((W.setCell ⟨g4, 0, none⟩ x).setCell ⟨g4, 1, none⟩ y) g u l k := by
  obtain ⟨h1, h2, h3⟩ := h
  exact ⟨(h1.other (by omega)).other (by omega), Sees.below h2 (((Below.refl g W).setCell (p := ⟨g4, 0, none⟩) (Nat.le_of_lt hg) x).setCell (p := ⟨g4, 1, none⟩) (Nat.le_of_lt hg) y), h3⟩
def tspan (l : List Int) (k : Nat) (m : Int) : Int × Int := (-m + l.getD k 0 % (m + m + 1), -m + l.getD k 0 % (m + m + 1) + l.getD (stepK l k) 0 % (m + 1))
set_option maxRecDepth 100000 in
theorem tspan_any (g : Nat) (u : Value) (l : List Int) (k : Nat) (m : Int) (w : World) (h : TapeAt w g u l k) (hm : 0 ≤ m) (hm2 : m ≤ 1000) :
    Calls Try.prog 26 #[.pointer (some ⟨g, 0, none⟩), .int .i64 m] w (TapeP g u l (stepK l (stepK l k)) (.agg #[.int .i64 (tspan l k m).1, .int .i64 (tspan l k m).2]) w) := by
  have hal := balloc w (.cells #[.int .i64 0, .int .i64 0] 28)
  have x4 := Box.new w 28 [.int .i64 0, .int .i64 0]
  change Box (w.alloc (.cells #[.int .i64 0, .int .i64 0] 28)) _ _ _ at x4
  have hgl := h.1.lt
  have hra := trange_any g u l k m _ (h.grown hal) hm hm2
  have hr1 := Int.emod_nonneg (l.getD k 0) (show m + m + 1 ≠ 0 by omega)
  have hr2 := Int.emod_lt_of_pos (l.getD k 0) (show 0 < m + m + 1 by omega)
  have hr3 := Int.emod_nonneg (l.getD (stepK l k) 0) (show m + 1 ≠ 0 by omega)
  have hr4 := Int.emod_lt_of_pos (l.getD (stepK l k) 0) (show 0 < m + 1 by omega)
  have hin := Lib.hid (fun W (h : TapeAt W g u l (stepK l k)) => tint_any g u l (stepK l k) (m + 1) W h (by omega) (by omega))
  have hsp : tspan l k m = (-m + l.getD k 0 % (m + m + 1), -m + l.getD k 0 % (m + m + 1) + l.getD (stepK l k) 0 % (m + 1)) := rfl
  rw [hsp]
  dsimp only
  generalize l.getD k 0 % (m + m + 1) = y at *
  generalize l.getD (stepK l k) 0 % (m + 1) = z at *
  replace hra := Lib.hid hra
  replace hsp := Lib.hid hsp
  replace hal := Lib.hid (grown_of_below hal (some g))
  clear h
  go_enter Try.func26, Try.ntmps26
  go_upto_region 1 with (fail)
  generalize w.alloc (.cells #[.int .i64 0, .int .i64 0] 28) = W0 at *
  have hne : Hid (w.heap.size ≠ g) := by show _ ≠ _; omega
  have hg4 := Lib.hid (Nat.le_refl w.heap.size)
  generalize hgg : w.heap.size = g4 at x4 hne ⊢
  replace hgg := Lib.hid hgg
  clear hg4
  go_wp2_with fail
  refine hra.out.mono ?_
  rintro e w1 ⟨rfl, h1, hg1⟩
  have x41 : Box w1 g4 28 [.int .i64 0, .int .i64 0] := (hg1.block g4 x4.lt (fun e => hne.out (Option.some.inj e))).trans x4
  have hi1 := Lib.hid (hin.out w1 h1)
  clear hin hra x4
  dsimp only
  go_wp2_with fail
  refine hi1.out.mono ?_
  rintro e w2 ⟨rfl, h2, hg2⟩
  have x42 : Box w2 g4 28 [.int .i64 0, .int .i64 0] := (hg2.block g4 x41.lt (fun e => hne.out (Option.some.inj e))).trans x41
  clear hi1 x41
  obtain ⟨y0, y1, f0, f1⟩ := box2_cells x42
  dsimp only
  go_wp2_with fail
  have k := box_set2 x42 (.int .i64 (-m + y)) (.int .i64 (-m + y + z))
  have kt := Lib.hid (tape_set2 h2 (Nat.lt_of_lt_of_eq hgl hgg.out) (.int .i64 (-m + y)) (.int .i64 (-m + y + z)))
  have kg := Lib.hid (grown_set2 (ggo hal.out (ggo hg1 hg2)) (Nat.le_of_eq hgg.out) (.int .i64 (-m + y)) (.int .i64 (-m + y + z)))
  clear y0 y1 f0 f1 x42
  generalize (w2.setCell ⟨g4, 0, none⟩ (.int .i64 (-m + y))).setCell ⟨g4, 1, none⟩ (.int .i64 (-m + y + z)) = W9 at *
  obtain ⟨z0, z1⟩ := boxT2 k
  refine bodyPost_ret (v := .agg #[.int .i64 (-m + y), .int .i64 (-m + y + z)]) (by simp [results, Try.results26, go_sem, z0, z1]) rfl ?_
  exact ⟨rfl, kt.out, kg.out⟩
theorem TapeAt.row {w w' : World} {g k : Nat} {r : Option Nat} {u : Value} {l : List Int} (h : TapeAt w g u l k) (hg : w.grownBy w' r) (hne : ∀ j, r = some j → g < j) : TapeAt w' g u l k := by
  obtain ⟨h1, h2, h3⟩ := h
  refine ⟨(hg.block g h1.lt (fun e => by have := hne g e.symm; omega)).trans h1, Sees.below h2 ⟨hg.os, hg.tape, hg.output, hg.size, fun k hk => hg.block k (by have := h1.lt; omega) (fun e => by have := hne k e.symm; omega)⟩, h3⟩
theorem row_tape {w w' : World} {g base size n : Nat} {T : TypeId} {v : Value} {xs : List Value} (h : w.ownsRow base T size v n xs) (hg : w.grownBy w' (some g)) (hb : g < base) : w'.ownsRow base T size v n xs :=
  h.kept hg (.inr fun e => by have := (h.lt g e).1; omega)
theorem tnew_any (u : Value) (l : List Int) (w : World) (h : SeesT w w.heap.size u l) :
    Calls Try.prog 13 #[u] w fun e w' => e = .returned (.pointer (some ⟨w.heap.size, 0, none⟩)) ∧ TapeAt w' w.heap.size u l 0 ∧ Below w.heap.size w w' ∧ w.heap.size < w'.heap.size := by
  obtain ⟨A, c, rfl, -, -⟩ := h.mk_
  have hal := balloc w (.cells #[.slice A l.length c, .int .i64 0] 56)
  have hx := Lib.hid (Box.new w 56 [.slice A l.length c, .int .i64 0])
  have h2 := Lib.hid (Sees.below h hal)
  replace hal := Lib.hid hal
  clear h
  go_enter Try.func13, Try.ntmps13
  go_wp2_with fail
  go_returns
  exact ⟨rfl, ⟨hx.out, h2.out, Nat.zero_le _⟩, hal.out, hx.out.lt⟩
end Go.Proofs.Ytiiaghmdajdbbaa

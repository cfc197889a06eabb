/- What a law leans on beyond the base: contracts, plain functions, walks. Conditions: those of each theorem. -/
import Derived.Test.YtjgepckncogdaaaGreatQC1
set_option linter.unusedVariables false
set_option linter.unusedSimpArgs false
namespace Go.Proofs.YtjgepckncogdaaaGreat
open Go Go.RowKit
set_option linter.unusedVariables false
set_option linter.unusedSimpArgs false
attribute [local go_sem ↓] Go.wp_at_zero Go.wp_at_succ
def SeesT (w : World) (B : Nat) (v : Value) (l : List Int) : Prop := Sees w B v 1 l.length (l.map fun x => Value.int .i64 x)
theorem SeesT.mk_ {w : World} {B : Nat} {v : Value} {l : List Int} (h : SeesT w B v l) : ∃ A c, v = .slice A l.length c ∧ l.length ≤ c ∧ c ≤ maxLen := Sees.mk_ h
theorem SeesT.at_ {w : World} {B n c : Nat} {A : Option Addr} {l : List Int} (h : SeesT w B (.slice A n c) l) (hn : 0 < l.length) : ∃ b o, A = some ⟨b, o, none⟩ ∧ b < B ∧ ∀ j, j < l.length → w.cell? ⟨b, o + j, none⟩ = some (.int .i64 (l.getD j 0)) := by
 obtain ⟨A', c', e, -, -⟩ := h.mk_
 injection e with e1 e2 e3
 subst e1 e2 e3
 obtain ⟨b, o, e, hb, hc⟩ := Sees.at_ h hn
 refine ⟨b, o, e, hb, fun j hj => hc j _ ?_⟩
 rw [List.getElem?_map, List.getElem?_eq_getElem hj, List.getD_eq_getElem?_getD, List.getElem?_eq_getElem hj]
 rfl
def stepK (l : List Int) (k : Nat) : Nat := if k < l.length then k + 1 else k
def TapeAt (w : World) (g : Nat) (u : Value) (l : List Int) (k : Nat) : Prop := Box w g 150 [u, .int .i64 k] ∧ SeesT w g u l ∧ k ≤ l.length
theorem TapeAt.grown {w w' : World} {g : Nat} {u : Value} {l : List Int} {k : Nat} (h : TapeAt w g u l k) (hb : Below w.heap.size w w') : TapeAt w' g u l k :=
 ⟨h.1.below hb, Sees.below h.2.1 (hb.mono (Nat.le_of_lt h.1.lt)), h.2.2⟩
def TapeP (g : Nat) (u : Value) (l : List Int) (k : Nat) (x : Value) (W : World) (e : Ending) (w' : World) : Prop :=
 e = .returned x ∧ TapeAt w' g u l k ∧ W.grownBy w' (some g)
theorem poke_draw (w : World) (g a b : Nat) (v : Value) : Below g w (((w.drewN a).setCell ⟨g, 1, none⟩ v).drewN b) := below_drewN (((below_drewN (Below.refl _ _) a)).setCell (p := ⟨g, 1, none⟩) (Nat.le_refl g) _) b
theorem poke_grown (w : World) (g a b : Nat) (v : Value) : w.grownBy (((w.drewN a).setCell ⟨g, 1, none⟩ v).drewN b) (some g) := ggo (grown_of_below (below_drewN (Below.refl _ _) a) _) (ggo (setCell_grown _ g 1 v) (grown_of_below (below_drewN (Below.refl _ _) b) _))
set_option maxRecDepth 100000 in
theorem tnext_any (g : Nat) (u : Value) (l : List Int) (k : Nat) (w : World) (h : TapeAt w g u l k) :
 Calls Tryz.prog 101 #[.pointer (some ⟨g, 0, none⟩)] w (TapeP g u l (stepK l k) (.int .i64 (l.getD k 0)) w) := by
 obtain ⟨hx, hs, hk⟩ := h
 obtain ⟨A, c, rfl, hc1, hc2⟩ := hs.mk_
 have c0 : w.cell? ⟨g, 0, none⟩ = some (.slice A l.length c) := hx.cell 0
 have c1 : w.cell? ⟨g, 1, none⟩ = some (.int .i64 k) := hx.cell 1
 have f1 := hx.frozen 1
 have hm := hc1
 unfold maxLen at hc2
 by_cases hlt : k < l.length
 · obtain ⟨b, o, rfl, hb, hcell⟩ := hs.at_ (by omega)
   have d0 := hcell k hlt
   have i0 : ¬ (l.length : Int) ≤ (k : Int) := by omega
   have i1 : (0 : Int) ≤ (k : Int) := by omega
   have i2 : (k : Int) < (l.length : Int) := by omega
   have hK : stepK l k = k + 1 := by rw [stepK, if_pos hlt]
   rw [hK]
   have hx2 : Box (w.setCell ⟨g, 1, none⟩ (.int .i64 ((k : Int) + 1))) g 150 [.slice (some ⟨b, o, none⟩) l.length c, .int .i64 ((k + 1 : Nat) : Int)] := by
    have := hx.set 1 (.int .i64 ((k : Int) + 1))
    simpa using this
   have e0 : (w.setCell ⟨g, 1, none⟩ (.int .i64 ((k : Int) + 1))).cell? ⟨g, 0, none⟩ = some (.slice (some ⟨b, o, none⟩) l.length c) := hx2.cell 0
   have e1 : (w.setCell ⟨g, 1, none⟩ (.int .i64 ((k : Int) + 1))).cell? ⟨g, 1, none⟩ = some (.int .i64 ((k : Int) + 1)) := hx2.cell 1
   have e2 : (w.setCell ⟨g, 1, none⟩ (.int .i64 ((k : Int) + 1))).cell? ⟨b, o + k, none⟩ = some (.int .i64 (l.getD k 0)) := (World.cell?_setCell_other w _ _ _ (fun e => by injection e; omega)).trans d0
   generalize l.getD k 0 = y at *
   replace hx2 := Lib.hid hx2
   replace hx := Lib.hid hx
   replace hs := Lib.hid hs
   replace hK := Lib.hid hK
   clear hcell
   go_enter Tryz.func101, Tryz.ntmps101
   go_wp2_with fail
   go_quiet (fail)
   go_wp2_with fail
   go_quiet (fail)
   go_wp2_with fail
   go_returns
   exact ⟨rfl, ⟨hx2.out, Sees.below hs.out (poke_draw _ _ _ _ _), by omega⟩, poke_grown _ _ _ _ _⟩
 · have hke : k = l.length := by omega
   have i0 : (l.length : Int) ≤ (k : Int) := by omega
   have hK : stepK l k = k := by rw [stepK, if_neg hlt]
   rw [hK]
   have hg : l.getD k 0 = 0 := by rw [List.getD_eq_getElem?_getD, List.getElem?_eq_none (by omega)]; rfl
   rw [hg]
   replace hx := Lib.hid hx
   replace hs := Lib.hid hs
   replace hK := Lib.hid hK
   replace hg := Lib.hid hg
   replace hke := Lib.hid hke
   go_enter Tryz.func101, Tryz.ntmps101
   go_wp2_with fail
   go_quiet (fail)
   go_wp2_with fail
   go_returns
   exact ⟨rfl, ⟨hx.out, Sees.below hs.out (below_drewN (Below.refl _ _) _), hk⟩, grown_of_below (below_drewN (Below.refl _ _) _) _⟩
theorem TapeAt.drew {w : World} {g : Nat} {u : Value} {l : List Int} {k : Nat} (h : TapeAt w g u l k) : TapeAt w.drew g u l k := h.grown (bdrew w)
set_option maxRecDepth 100000 in
theorem tint_any (g : Nat) (u : Value) (l : List Int) (k : Nat) (n : Int) (w : World) (h : TapeAt w g u l k) (hn : 1 ≤ n) (hn2 : n ≤ 1048576) :
 Calls Tryz.prog 37 #[.pointer (some ⟨g, 0, none⟩), .int .i64 n] w (TapeP g u l (stepK l k) (.int .i64 (l.getD k 0 % n)) w) := by
 have hnx := Lib.hid (tnext_any g u l k w h)
 have hwi := Lib.hid (fun W => kwithin_any (l.getD k 0) n hn (by omega) W)
 generalize l.getD k 0 = y at *
 clear h
 go_enter Tryz.func37, Tryz.ntmps37
 go_wp2_with fail
 refine hnx.out.mono ?_
 rintro e w1 ⟨rfl, h1, hg1⟩
 dsimp only
 go_wp2_with fail
 refine (hwi.out w1).mono ?_
 rintro e w2 ⟨rfl, rfl⟩
 replace h1 := Lib.hid h1
 dsimp only
 go_wp2_with fail
 go_returns
 exact ⟨rfl, h1.out, hg1⟩
end Go.Proofs.YtjgepckncogdaaaGreat

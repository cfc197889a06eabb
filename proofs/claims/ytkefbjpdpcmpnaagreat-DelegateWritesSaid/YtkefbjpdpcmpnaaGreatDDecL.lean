/- What Decode of a delegation returns, and small lemmas on blocks of four cells. -/
import Derived.Test.YtkefbjpdpcmpnaaGreatDEnc
import Derived.Test.YtkefbjpdpcmpnaaGreatCut2
import Derived.Test.YtkefbjpdpcmpnaaGreatGrant
namespace Go.Proofs.YtkefbjpdpcmpnaaGreat
open Go.RowKit
set_option linter.unusedVariables false
set_option linter.unusedSimpArgs false
attribute [local go_sem ↓] Go.wp_at_zero Go.wp_at_succ
def delP (b : Bs) : Bs := if delC b = 0 then datN b 0 else []
def delS (b : Bs) : Bs := if delC b = 0 then (unpadG (datN b 1)).getD [] else []
def delLo (b : Bs) : Int := if delC b = 0 then unLo (datN b 2) else 0
def delHi (b : Bs) : Int := if delC b = 0 then unHi (datN b 2) else 0
def DDecP (b : Bs) (w : World) (e : Ending) (w' : World) : Prop :=
  ∃ v1 v2, e = .returned (.tuple #[.agg #[v1, .int .i64 (delLo b), .int .i64 (delHi b), v2], .int .i64 (delC b)]) ∧ SeesB w' w'.heap.size v1 (delP b) ∧ SeesB w' w'.heap.size v2 (delS b) ∧ Below w.heap.size w w'
theorem ddec_bad {b : Bs} {c : Int} (h : delC b = c) (hc : c ≠ 0) {w w' : World} {e : Ending} (he : e = .returned (.tuple #[.agg #[.slice none 0 0, .int .i64 0, .int .i64 0, .slice none 0 0], .int .i64 c])) (hb : Below w.heap.size w w') : DDecP b w e w' := by
  have h0 : ¬ delC b = 0 := by rw [h]; exact hc
  refine ⟨.slice none 0 0, .slice none 0 0, ?_, ?_, ?_, hb⟩
  · rw [delLo, delHi, if_neg h0, if_neg h0, h]; exact he
  · rw [delP, if_neg h0]; exact SeesB.nil _ _
  · rw [delS, if_neg h0]; exact SeesB.nil _ _
theorem ddec_ok {b s : Bs} {v1 v2 : Value} {lo hi : Int} (h : delC b = 0) (hs : unpadG (datN b 1) = some s) (hlo : unLo (datN b 2) = lo) (hhi : unHi (datN b 2) = hi) {w w' : World} {e : Ending} (he : e = .returned (.tuple #[.agg #[v1, .int .i64 lo, .int .i64 hi, v2], .int .i64 0])) (h1 : SeesB w' w'.heap.size v1 (datN b 0)) (h2 : SeesB w' w'.heap.size v2 s) (hb : Below w.heap.size w w') : DDecP b w e w' := by
  refine ⟨v1, v2, ?_, ?_, ?_, hb⟩
  · rw [delLo, delHi, if_pos h, if_pos h, h, hlo, hhi]; exact he
  · rw [delP, if_pos h]; exact h1
  · rw [delS, if_pos h, hs]; exact h2
theorem box_set4 {W : World} {g : Nat} {T : TypeId} {a0 a1 a2 a3 : Value} (h : Box W g T [a0, a1, a2, a3]) (x0 x1 x2 x3 : Value) : Box ((((W.setCell ⟨g, 0, none⟩ x0).setCell ⟨g, 1, none⟩ x1).setCell ⟨g, 2, none⟩ x2).setCell ⟨g, 3, none⟩ x3) g T [x0, x1, x2, x3] := by
  have y := (((h.set 0 x0).set 1 x1).set 2 x2).set 3 x3
  simpa only [List.set_cons_zero, List.set_cons_succ] using y
theorem bset4 {w W : World} {g : Nat} (h : Below w.heap.size w W) (hg : w.heap.size ≤ g) (x0 x1 x2 x3 : Value) : Below w.heap.size w ((((W.setCell ⟨g, 0, none⟩ x0).setCell ⟨g, 1, none⟩ x1).setCell ⟨g, 2, none⟩ x2).setCell ⟨g, 3, none⟩ x3) :=
  (((h.setCell (p := ⟨g, 0, none⟩) hg _).setCell (p := ⟨g, 1, none⟩) hg _).setCell (p := ⟨g, 2, none⟩) hg _).setCell (p := ⟨g, 3, none⟩) hg _
theorem sees_set4 {W : World} {g : Nat} {T : TypeId} {a0 a1 a2 a3 u : Value} {l : Bs} (h : Box W g T [a0, a1, a2, a3]) (n : NoByte [a0, a1, a2, a3]) (x0 x1 x2 x3 : Value) (hs : SeesB W W.heap.size u l) : SeesB ((((W.setCell ⟨g, 0, none⟩ x0).setCell ⟨g, 1, none⟩ x1).setCell ⟨g, 2, none⟩ x2).setCell ⟨g, 3, none⟩ x3) ((((W.setCell ⟨g, 0, none⟩ x0).setCell ⟨g, 1, none⟩ x1).setCell ⟨g, 2, none⟩ x2).setCell ⟨g, 3, none⟩ x3).heap.size u l := by
  have hz : ((((W.setCell ⟨g, 0, none⟩ x0).setCell ⟨g, 1, none⟩ x1).setCell ⟨g, 2, none⟩ x2).setCell ⟨g, 3, none⟩ x3).heap.size = W.heap.size := by simp [World.setCell]
  rw [hz]
  exact hs.over (Nat.le_refl _) h n (ggo (ggo (ggo (setCell_grown W g 0 x0) (setCell_grown _ g 1 x1)) (setCell_grown _ g 2 x2)) (setCell_grown _ g 3 x3))
/-- What the last region of Decode leaves: the delegation's block. -/
def D12 (w6 : World) (x0 : Value) (lo hi : Int) (x3 v12 : Value) (W : World) : Prop :=
  ∃ g, v12 = .pointer (some ⟨g, 0, none⟩) ∧ Box W g 37 [x0, .int .i64 lo, .int .i64 hi, x3] ∧ w6.heap.size ≤ g ∧ Below w6.heap.size w6 W
theorem d12_new (w6 : World) (x0 : Value) (lo hi : Int) (x3 : Value) : D12 w6 x0 lo hi x3 (.pointer (some ⟨w6.heap.size, 0, none⟩)) (w6.alloc (.cells #[x0, .int .i64 lo, .int .i64 hi, x3] 37)) :=
  ⟨_, rfl, Box.new w6 37 [x0, .int .i64 lo, .int .i64 hi, x3], Nat.le_refl _, balloc _ _⟩
theorem d12_drew {w6 W : World} {x0 : Value} {lo hi : Int} {x3 v12 : Value} (h : D12 w6 x0 lo hi x3 v12 W) : D12 w6 x0 lo hi x3 v12 W.drew := by
  obtain ⟨g, h1, h2, h3, h4⟩ := h
  exact ⟨g, h1, h2, h3, h4.drew⟩
theorem d12_set (w6 : World) (x0 : Value) (lo hi : Int) (x3 : Value) : D12 w6 x0 lo hi x3 (.pointer (some ⟨w6.heap.size, 0, none⟩)) (((((w6.alloc (.cells #[.slice none 0 0, .int .i64 0, .int .i64 0, .slice none 0 0] 37)).setCell ⟨w6.heap.size, 0, none⟩ x0).setCell ⟨w6.heap.size, 1, none⟩ (.int .i64 lo)).setCell ⟨w6.heap.size, 2, none⟩ (.int .i64 hi)).setCell ⟨w6.heap.size, 3, none⟩ x3) :=
  ⟨_, rfl, box_set4 (Box.new w6 37 [.slice none 0 0, .int .i64 0, .int .i64 0, .slice none 0 0]) x0 (.int .i64 lo) (.int .i64 hi) x3, Nat.le_refl _, bset4 (balloc w6 _) (Nat.le_refl _) _ _ _ _⟩
theorem noZ4 : NoByte [.slice none 0 0, .int .i64 0, .int .i64 0, .slice none 0 0] := noBL4 (NoB.s none 0 0) (NoB.i 0) (NoB.i 0) (NoB.s none 0 0)
theorem dat_get (b : Bs) (k : Nat) : ((decT b).map (·.2)).getD k [] = datN b k := by
  unfold datN
  rw [List.getD_eq_getElem?_getD, List.getD_eq_getElem?_getD, List.getElem?_map]
  cases (decT b)[k]? <;> rfl
theorem delC_err {b : Bs} (h : decC b ≠ 0) : delC b = decC b := by unfold delC; rw [if_neg h]
theorem delC_no {b : Bs} (h : decC b = 0) (h2 : delOk b = false) : delC b = 3 := by unfold delC; rw [if_pos h, h2]; rfl
theorem delC_yes {b : Bs} (h : decC b = 0) (h2 : delOk b = true) : delC b = 0 := by unfold delC; rw [if_pos h, h2]; rfl
end Go.Proofs.YtkefbjpdpcmpnaaGreat

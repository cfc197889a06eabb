/- What blame.Decode returns, plain. Conditions: those of each theorem. -/
import Derived.Test.YtcoehlmeegoofaaGreatREncB
import Derived.Test.YtcoehlmeegoofaaGreatEncB
import Derived.Test.YtcoehlmeegoofaaGreatLCpy
import Derived.BigRegion
import Derived.Deep.AppendLies
import Derived.Deep.CutBlock
namespace Go.Proofs.YtcoehlmeegoofaaGreat
open Go Go.RowKit
set_option linter.unusedVariables false
set_option linter.unusedSimpArgs false
def noPf : Value := .agg #[.slice none 0 0, .int .i64 0, .int .i64 0]
def FDecR (w' : World) (e : Ending) : Option (List Lk × Nat × Nat) → Prop
  | none => e = .returned (.tuple #[.agg #[.slice none 0 0, .int .i64 0, .int .i64 0], .int .i64 3])
  | some p => ∃ v, e = .returned (.tuple #[.agg #[v, .int .i64 (p.2.1 : Int), .int .i64 (p.2.2 : Int)], .int .i64 0]) ∧ SeesR w' w'.heap.size v 3 p.1.length (linkS p.1)
def FDecQ (w' : World) (e : Ending) : Option (List Fd) → Prop
  | none => e = .returned (.tuple #[.agg #[.slice none 0 0, .int .i64 0, .int .i64 0], .int .i64 1])
  | some l => ∃ o, DecL l o ∧ FDecR w' e o
def FDecP (b : Bs) (w : World) (e : Ending) (w' : World) : Prop := ∃ o, FieldsR b o ∧ FDecQ w' e o ∧ Below w.heap.size w w'
theorem fdec_short {b : Bs} (hR : FieldsR b none) {w w' : World} (hb : Below w.heap.size w w') : FDecP b w (.returned (.tuple #[.agg #[.slice none 0 0, .int .i64 0, .int .i64 0], .int .i64 1])) w' := ⟨none, hR, rfl, hb⟩
theorem fdec_bad {b : Bs} {l : List Fd} (hR : FieldsR b (some l)) (hD : DecL l none) {w w' : World} (hb : Below w.heap.size w w') : FDecP b w (.returned (.tuple #[.agg #[.slice none 0 0, .int .i64 0, .int .i64 0], .int .i64 3])) w' := ⟨some l, hR, ⟨none, hD, rfl⟩, hb⟩
theorem fdec_good {b : Bs} {l : List Fd} {ls : List Lk} {f s : Nat} (hR : FieldsR b (some l)) (hD : DecL l (some (ls, f, s))) {w w' : World} {v : Value} (hs : SeesR w' w'.heap.size v 3 ls.length (linkS ls)) (hb : Below w.heap.size w w') : FDecP b w (.returned (.tuple #[.agg #[v, .int .i64 (f : Int), .int .i64 (s : Int)], .int .i64 0])) w' := ⟨some l, hR, ⟨_, hD, v, rfl, hs⟩, hb⟩
theorem noB_pf (A : Option Addr) (n c : Nat) (a b : Int) : NoByte [Value.slice A n c, .int .i64 a, .int .i64 b] := by
  intro x hx n e
  simp only [List.mem_cons, List.not_mem_nil, or_false] at hx
  rcases hx with rfl | rfl | rfl <;> cases e
theorem exK_take {l : List Fd} {m k : Nat} (h : k < m) : (exK l m).take (k + 1) = (exK l m).take k ++ [trip l k] := by
  rw [List.take_add_one, exK_get l h]; rfl
theorem OwnR.pokes {w : World} {base k size g : Nat} {T T' : TypeId} {v : Value} {ss : List Spec} (h : OwnR w base T v size k ss) (hG : g < base) (hbx : Box w g T' [.slice none 0 0, .int .i64 0, .int .i64 0]) (A : Option Addr) (n c : Nat) (a b : Int) : OwnR (((w.setCell ⟨g, 0, none⟩ (.slice A n c)).setCell ⟨g, 1, none⟩ (.int .i64 a)).setCell ⟨g, 2, none⟩ (.int .i64 b)) base T v size k ss := by
  have h1 := h.poke (j := 0) (v' := .slice A n c) hG hbx (noB_pf none 0 0 0 0)
  have b1 := hbx.set 0 (.slice A n c)
  simp only [List.set_cons_zero] at b1
  have h2 := h1.poke (j := 1) (v' := .int .i64 a) hG b1 (noB_pf _ _ _ _ _)
  have b2 := b1.set 1 (.int .i64 a)
  simp only [List.set_cons_zero, List.set_cons_succ] at b2
  exact h2.poke hG b2 (noB_pf _ _ _ _ _)
/-- What a round of Decode leaves: a link more in the proof's box. -/
def AddQ (W7 w1 : World) (g7 k : Nat) (x y : UInt8) (ss : List Spec) (v : Value) (W : World) : Prop :=
  Box W g7 24 [v, .int .i64 (x.toNat : Int), .int .i64 (y.toNat : Int)] ∧ OwnR W W7.heap.size 41 v 3 (k + 1) ss ∧ Below w1.heap.size w1 W ∧ W7.heap.size ≤ W.heap.size
theorem addQ_done {W7 w1 w' : World} {g7 k cv nv : Nat} {x y : UInt8} {ss : List Spec} {v' : Value} {Av : Option Addr} (hx : Box w' g7 24 [.slice Av nv cv, .int .i64 (x.toNat : Int), .int .i64 (y.toNat : Int)]) (ho : OwnR w' W7.heap.size 41 v' 3 (k + 1) ss) (hb : Below w1.heap.size w1 w') (hg : g7 < W7.heap.size) (hg1 : w1.heap.size ≤ g7) (hz : W7.heap.size ≤ w'.heap.size) :
    AddQ W7 w1 g7 k x y ss v' (w'.setCell ⟨g7, 0, none⟩ v') :=
  ⟨by have := hx.set 0 v'; simpa only [List.set_cons_zero] using this, ho.poke hg hx (noB_pf _ _ _ _ _), hb.setCell (p := ⟨g7, 0, none⟩) hg1 v', by simpa [World.setCell] using hz⟩
theorem fenc_big {ls : List Lk} {f s : Int} (h : 8 < ls.length) {w w' : World} {e : Ending} (hp : FEncP ls f s w e w') : ∃ v, e = .returned (.tuple #[v, .int .i64 8]) ∧ OwnB w' w.heap.size v (fencB ls f s) ∧ Below w.heap.size w w' := by
  obtain ⟨v, h1, h2, h3⟩ := hp
  have hc : fencC ls f s = 8 := by unfold fencC; rw [if_pos h]
  rw [hc] at h1
  exact ⟨v, h1, h2, h3⟩
theorem fenc_fit {ls : List Lk} {x y : UInt8} (h : ls.length ≤ 8) {w w' : World} {e : Ending} (hp : FEncP ls (x.toNat : Int) (y.toNat : Int) w e w') : ∃ v, e = .returned (.tuple #[v, .int .i64 0]) ∧ OwnB w' w.heap.size v (wrF (encF ls x.toNat y.toNat)) ∧ Below w.heap.size w w' := by
  obtain ⟨v, h1, h2, h3⟩ := hp
  have hx := x.toNat_lt
  have hy := y.toNat_lt
  have hc : fencC ls (x.toNat : Int) (y.toNat : Int) = 0 := by unfold fencC; rw [if_neg (by omega), if_pos (by omega)]
  rw [fencB, if_pos hc] at h2
  rw [hc] at h1
  exact ⟨v, h1, h2, h3⟩
theorem trip3_elts {w : World} {v x y z : Value} {a b c : Bs} (h1 : EltS w v x (.byt a)) (h2 : EltS w v y (.byt b)) (h3 : EltS w v z (.byt c)) : ∀ (k : Nat) (s : Spec), (linkS [(a, b, c)])[k]? = some s → ∃ u, [x, y, z][k]? = some u ∧ EltS w v u s := by
  intro k s hk
  match k, hk with
  | 0, hk => cases hk; exact ⟨_, rfl, h1⟩
  | 1, hk => cases hk; exact ⟨_, rfl, h2⟩
  | 2, hk => cases hk; exact ⟨_, rfl, h3⟩
  | k + 3, hk => simp [linkS] at hk
/-- The data at one place of fields in memory. -/
theorem fd_atD {w : World} {B n c : Nat} {A : Option Addr} {l : List Fd} (h : SeesR w B (.slice A n c) 2 n (fdS l)) {k : Nat} (hk : k < l.length) :
    ∃ b o A1 c1, A = some ⟨b, o, none⟩ ∧ b < B ∧ w.cell? ⟨b, o + k * 2, none⟩ = some (.int .i64 ((l.getD k (0, [])).1 : Int)) ∧ w.cell? ⟨b, o + k * 2 + 1, none⟩ = some (.slice A1 (l.getD k (0, [])).2.length c1) ∧ SeesB w B (.slice A1 (l.getD k (0, [])).2.length c1) (l.getD k (0, [])).2 := by
  refine fd_at h k _ ?_
  rw [List.getD_eq_getElem?_getD, List.getElem?_eq_getElem hk]; rfl
end Go.Proofs.YtcoehlmeegoofaaGreat

/- slices.Sort on a row of numbers of the call's own; what Trim computes (plain). -/
import Derived.Test.YtiiaghmdajdbbaaQS
import Derived.Test.YtiiaghmdajdbbaaQH
import Derived.Test.YtiiaghmdajdbbaaShelf
namespace Go.Proofs.Ytiiaghmdajdbbaa
open Go.RowKit Go.Sort
set_option linter.unusedVariables false
/-- The numbers in ascending order. -/
def srt (l : List Int) : List Int := l.mergeSort fun x y => decide (x ≤ y)
theorem srt_perm (l : List Int) : (srt l).Perm l := List.mergeSort_perm l _
theorem srt_len (l : List Int) : (srt l).length = l.length := (srt_perm l).length_eq
theorem srt_asc (l : List Int) : (srt l).Pairwise (· ≤ ·) := by
  have := List.pairwise_mergeSort (le := fun x y : Int => decide (x ≤ y)) (fun a b c h1 h2 => by simp at *; omega) (fun a b => by simp; omega) l
  exact this.imp (fun h => by simpa using h)
theorem sorted_eq : ∀ {a b : List Int}, a.Perm b → a.Pairwise (· ≤ ·) → b.Pairwise (· ≤ ·) → a = b
  | [], b, h, _, _ => (List.nil_perm.1 h).symm
  | x :: a, [], h, _, _ => by have := h.length_eq; simp at this
  | x :: a, y :: b, h, ha, hb => by
    have ha' := List.pairwise_cons.1 ha
    have hb' := List.pairwise_cons.1 hb
    have hx : x ∈ y :: b := h.mem_iff.1 (by simp)
    have hy : y ∈ x :: a := h.mem_iff.2 (by simp)
    have e : x = y := by
      rcases List.mem_cons.1 hx with h1 | h1
      · exact h1
      · rcases List.mem_cons.1 hy with h2 | h2
        · exact h2.symm
        · have := ha'.1 y h2
          have := hb'.1 x h1
          omega
    subst e
    rw [sorted_eq (List.Perm.cons_inv h) ha'.2 hb'.2]
theorem srt_uniq {l r : List Int} (h : r.Perm l) (ha : r.Pairwise (· ≤ ·)) : r = srt l := sorted_eq (h.trans (srt_perm l).symm) ha (srt_asc l)
theorem holds_ownI {w : World} {base g cap n : Nat} {d : List Int} (hn : d.length = n) (h : w.ownsRow base 3 1 (.slice (some ⟨g, 0, none⟩) n cap) n (viI d)) : Holds (Value.int .i64) w g 0 d.toArray := by
  subst hn
  intro j hj
  have hj' : j < d.length := by simpa using hj
  rw [Nat.zero_add]
  refine ⟨?_, h.frozenAt j⟩
  rw [h.cellAt j (by omega), viI_get, List.getElem?_eq_getElem hj']
  simp [hj']
theorem put_takeI (F : Array Int) (cur : Array Value) (h : F.size ≤ cur.size) : (putCells (Value.int .i64) 0 F cur).toList.take F.size = viI F.toList := by
  apply List.ext_getElem?
  intro k
  rw [List.getElem?_take]
  by_cases hk : k < F.size
  · rw [if_pos hk]
    unfold putCells
    rw [Array.getElem?_toList, Array.getElem?_mapIdx, Array.getElem?_eq_getElem (show k < cur.size by omega), Option.map_some, if_pos ⟨Nat.zero_le _, by omega⟩, viI_get, Array.getElem?_toList, Array.getElem?_eq_getElem hk]
    simp [hk]
  · rw [if_neg hk, viI_get, Array.getElem?_toList, Array.getElem?_eq_none (by omega)]; rfl
theorem sort_any (g cap n : Nat) (d : List Int) (base : Nat) (w : World) (hn : d.length = n) (h : w.ownsRow base 3 1 (.slice (some ⟨g, 0, none⟩) n cap) n (viI d)) (hl : n ≤ 1000) :
    Calls Try.prog 33 #[.slice (some ⟨g, 0, none⟩) n cap] w fun e w' => e = .returned (.tuple #[]) ∧ w'.ownsRow base 3 1 (.slice (some ⟨g, 0, none⟩) n cap) n (viI (srt d)) ∧ w.grownBy w' (some g) := by
  have hH := holds_ownI hn h
  have hlt : g < w.heap.size := (h.lt g rfl).2
  have hcon := Try.slices_Sort_int g 0 cap d w hH hlt (by omega)
  rw [hn] at hcon
  refine Calls.mono hcon ?_
  rintro e w' ⟨he, m, os, rfl⟩
  have hFs : (srt d).toArray.size = n := by simp [srt_len, hn]
  refine ⟨he, ?_⟩
  show (grow (putRow (Value.int .i64) (Sort.ahead w m) g 0 (srt d).toArray) os).ownsRow _ _ _ _ _ _ ∧ w.grownBy (grow (putRow (Value.int .i64) (Sort.ahead w m) g 0 (srt d).toArray) os) _
  rcases h.2 with ⟨h', _⟩ | ⟨g', cap', cur, h', hb, hg, hnc, hcm, hcs, htake⟩
  · simp at h'
  · simp only [Value.slice.injEq, Option.some.injEq, Addr.mk.injEq, and_true, true_and] at h'
    obtain ⟨rfl, rfl⟩ := h'
    refine ⟨⟨by rw [viI_len, srt_len, hn, Nat.mul_one], .inr ⟨g, cap, putCells (Value.int .i64) 0 (srt d).toArray cur, rfl, hb, ?_, hnc, hcm, by simp [putCells, hcs], ?_⟩⟩, rfl, rfl, rfl, ?_, fun k hk hne => ?_⟩
    · show (((Sort.ahead w m).heap.modify g (onCells (putCells (Value.int .i64) 0 (srt d).toArray))) ++ os)[g]? = _
      rw [Array.getElem?_append_left (by simpa [Sort.ahead] using hlt), Array.getElem?_modify]
      show (if g = g then (w.heap[g]?).map _ else _) = _
      rw [if_pos rfl, hg]
      rfl
    · rw [Nat.mul_one, ← hFs, put_takeI _ _ (by rw [hFs, hcs]; omega)]
    · show w.heap.size ≤ (((Sort.ahead w m).heap.modify g (onCells (putCells (Value.int .i64) 0 (srt d).toArray))) ++ os).size
      rw [Array.size_append, Array.size_modify]
      exact Nat.le_add_right _ _
    · show (((Sort.ahead w m).heap.modify g (onCells (putCells (Value.int .i64) 0 (srt d).toArray))) ++ os)[k]? = _
      rw [Array.getElem?_append_left (by simpa [Sort.ahead] using hk), Array.getElem?_modify, if_neg (fun e => hne (by rw [e]))]
      rfl
/-- The ends that Trim looks at. -/
def tLo (l : List Sp) (f : Int) : Int := (srt (l.map (·.1))).getD (l.length - 1 - f.toNat) 0
def tHi (l : List Sp) (f : Int) : Int := (srt (l.map (·.2))).getD f.toNat 0
def trC (l : List Sp) (f : Int) : Int := if qchkC l f = 0 then (if tLo l f ≤ tHi l f then 0 else 21) else qchkC l f
def trLo (l : List Sp) (f : Int) : Int := if trC l f = 0 then tLo l f else 0
def trHi (l : List Sp) (f : Int) : Int := if trC l f = 0 then tHi l f else 0
def TrimP (l : List Sp) (f : Int) (w : World) (e : Ending) (w' : World) : Prop := e = .returned (.tuple #[.agg #[.int .i64 (trLo l f), .int .i64 (trHi l f)], .int .i64 (trC l f)]) ∧ Below w.heap.size w w'
theorem trim_bad {l : List Sp} {f c : Int} {w w' : World} (h : trC l f = c) (hc : c ≠ 0) (hb : Below w.heap.size w w') : TrimP l f w (.returned (.tuple #[.agg #[.int .i64 0, .int .i64 0], .int .i64 c])) w' := by
  subst h
  refine ⟨?_, hb⟩
  unfold trLo trHi
  rw [if_neg hc, if_neg hc]
theorem trim_ok {l : List Sp} {f lo hi : Int} {w w' : World} (h : trC l f = 0) (h1 : tLo l f = lo) (h2 : tHi l f = hi) (hb : Below w.heap.size w w') : TrimP l f w (.returned (.tuple #[.agg #[.int .i64 lo, .int .i64 hi], .int .i64 0])) w' := by
  subst h1 h2
  refine ⟨?_, hb⟩
  unfold trLo trHi
  rw [if_pos h, if_pos h, h]
theorem map_take_snoc {α β : Type} (g : α → β) {l : List α} {k : Nat} {s : α} (h : l[k]? = some s) : (l.take (k + 1)).map g = (l.take k).map g ++ [g s] := by
  rw [List.take_add_one, h]; simp
end Go.Proofs.Ytiiaghmdajdbbaa

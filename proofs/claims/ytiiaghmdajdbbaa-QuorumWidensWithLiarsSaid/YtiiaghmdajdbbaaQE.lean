/- Contract of sweep.events: the events of valid spans, sorted. Conditions: the spans are seen, at least one, at most 64. -/
import Derived.Test.YtiiaghmdajdbbaaQE0
import Derived.Test.YtiiaghmdajdbbaaSortev
namespace Go.Proofs.Ytiiaghmdajdbbaa
open Go.RowKit Go.Sort
set_option linter.unusedVariables false
set_option linter.unusedSimpArgs false
attribute [local go_sem ↓] Go.wp_at_zero Go.wp_at_succ
theorem isnan_any (x : Int) (w : World) : Calls Try.prog 72 #[.int .i64 x] w fun e w' => e = .returned (.bool false) ∧ w = w' := by
  go_enter Try.func72, Try.ntmps72
  go_wp2
  go_ret
  exact ⟨ret_bool (by simp), rfl⟩
set_option maxRecDepth 100000 in
theorem compare_any (x y : Int) (w : World) : Calls Try.prog 79 #[.int .i64 x, .int .i64 y] w fun e w' => e = .returned (.int .i64 (Lib.compareInt x y)) ∧ w = w' := by
  unfold Lib.compareInt
  by_cases h1 : x < y
  · rw [if_pos h1]
    go_enter Try.func79, Try.ntmps79
    go_wp2_with (go_at_call 72; refine (isnan_any _ _).mono ?_; rintro e w' ⟨rfl, rfl⟩)
    go_ret
    exact ⟨rfl, rfl⟩
  · rw [if_neg h1]
    by_cases h2 : y < x
    · rw [if_pos h2]
      go_enter Try.func79, Try.ntmps79
      go_wp2_with (go_at_call 72; refine (isnan_any _ _).mono ?_; rintro e w' ⟨rfl, rfl⟩)
      go_ret
      exact ⟨rfl, rfl⟩
    · rw [if_neg h2]
      go_enter Try.func79, Try.ntmps79
      go_wp2_with (go_at_call 72; refine (isnan_any _ _).mono ?_; rintro e w' ⟨rfl, rfl⟩)
      go_ret
      exact ⟨rfl, rfl⟩
/-- An event's two cells. -/
def encE (x : Int × Int) : List Value := [.int .i64 x.1, .int .i64 x.2]
theorem ltE (x y : Int × Int) : ltOf (fun x y : Int × Int => Lib.compareInt x.1 y.1) x y = decide (x.1 < y.1) := by
  unfold ltOf Lib.compareInt
  by_cases h1 : x.1 < y.1
  · simp [h1]
  · by_cases h2 : y.1 < x.1 <;> simp [h1, h2]
theorem swoE : SWO (ltOf fun x y : Int × Int => Lib.compareInt x.1 y.1) where
  irrefl x := by rw [ltE]; simp
  trans x y z h1 h2 := by rw [ltE] at *; simp at *; omega
  ntrans x y z h1 h2 := by rw [ltE] at *; simp at *; omega
theorem evcl_any (x y : Int × Int) (W : World) : Calls Try.prog 78 #[.agg #[.int .i64 x.1, .int .i64 x.2], .agg #[.int .i64 y.1, .int .i64 y.2]] W fun e w' => e = .returned (.int .i64 (Lib.compareInt x.1 y.1)) ∧ ∃ q os', w' = grow (W.drewN q) os' := by
  have hcon := fun W' => compare_any x.1 y.1 W'
  generalize Lib.compareInt x.1 y.1 = r at hcon ⊢
  go_enter Try.func78, Try.ntmps78
  go_wp2_with (go_at_call 79; refine (hcon _).mono ?_; rintro e w' ⟨rfl, rfl⟩)
  go_ret
  exact ⟨rfl, 0, _, by rw [alloc_eq_grow, alloc_eq_grow, grow_grow]; rfl⟩
theorem evLays (blk off size : Nat) (w : World) : CmpLays Try.prog 78 #[] encE 2 (fun x y => Lib.compareInt x.1 y.1) blk off size w :=
  fun _ _ _ _ x y => evcl_any x y _
theorem flat_sp (d : List (Int × Int)) : flatK encE 2 d.toArray = (spV d).toArray := by
  refine ext_get! (by rw [size_flatK]; simp [spV_len]) fun t ht => ?_
  rw [size_flatK] at ht
  rw [get_flatK _ _ _ _ ht]
  have hj : t / 2 < d.length := by simp at ht; omega
  have hs := spV_get d (t / 2) _ (List.getElem?_eq_getElem hj)
  have hd : (d.toArray)[t / 2]! = d[t / 2] := by simp [hj]
  rw [hd]
  rcases Nat.mod_two_eq_zero_or_one t with h | h
  · have e : t / 2 * 2 = t := by omega
    rw [e] at hs
    rw [h]
    have := hs.1
    simp only [encE]
    rw [show (spV d).toArray[t]! = ((spV d).toArray[t]?).getD default from by simp [getElem!_def]; split <;> simp_all]
    simp [this]
  · have e : t / 2 * 2 + 1 = t := by omega
    rw [e] at hs
    rw [h]
    have := hs.2
    simp only [encE]
    rw [show (spV d).toArray[t]! = ((spV d).toArray[t]?).getD default from by simp [getElem!_def]; split <;> simp_all]
    simp [this]
theorem holds_own {w : World} {base g cap : Nat} {d : List (Int × Int)} (h : w.ownsRow base 102 2 (.slice (some ⟨g, 0, none⟩) d.length cap) d.length (spV d)) : HoldsK encE 2 w g 0 d.toArray := by
  unfold HoldsK Holds
  rw [flat_sp]
  intro j hj
  have hj' : j < (spV d).length := by simpa using hj
  rw [Nat.zero_add]
  refine ⟨?_, h.frozenAt j⟩
  rw [h.cellAt j (by rw [spV_len] at hj'; exact hj'), List.getElem?_eq_getElem hj']
  simp [hj']
theorem put_take (F cur : Array Value) (h : F.size ≤ cur.size) : (putCells id 0 F cur).toList.take F.size = F.toList := by
  apply List.ext_getElem?
  intro k
  rw [List.getElem?_take]
  by_cases hk : k < F.size
  · rw [if_pos hk]
    unfold putCells
    rw [Array.getElem?_toList, Array.getElem?_mapIdx, Array.getElem?_eq_getElem (show k < cur.size by omega), Option.map_some, if_pos ⟨Nat.zero_le _, by omega⟩, Array.getElem?_toList, Array.getElem?_eq_getElem hk]
    simp [hk]
  · rw [if_neg hk, Array.getElem?_toList, Array.getElem?_eq_none (by omega)]
theorem sorted_own {w : World} {base g cap : Nat} {d : List (Int × Int)} (h : w.ownsRow base 102 2 (.slice (some ⟨g, 0, none⟩) d.length cap) d.length (spV d)) (d' : Array (Int × Int)) (hs : d'.size = d.length) (n : Nat) (os : Array Obj) :
    (sortWorldK encE 2 w g 0 n d' os).ownsRow base 102 2 (.slice (some ⟨g, 0, none⟩) d.length cap) d.length (spV d'.toList) ∧ w.grownBy (sortWorldK encE 2 w g 0 n d' os) (some g) := by
  have hF : flatK encE 2 d' = (spV d'.toList).toArray := by
    have := flat_sp d'.toList
    rwa [Array.toArray_toList] at this
  have hFs : (flatK encE 2 d').size = d.length * 2 := by rw [size_flatK, hs]
  rcases h.2 with ⟨h', _⟩ | ⟨g', cap', cur, h', hb, hg, hnc, hcm, hcs, htake⟩
  · simp at h'
  · simp only [Value.slice.injEq, Option.some.injEq, Addr.mk.injEq, and_true, true_and] at h'
    obtain ⟨rfl, rfl⟩ := h'
    have hlt : g < w.heap.size := (Array.getElem?_eq_some_iff.1 hg).1
    refine ⟨⟨by rw [spV_len, Array.length_toList, hs], .inr ⟨g, cap, putCells id 0 (flatK encE 2 d') cur, rfl, hb, ?_, hnc, hcm, by simp [putCells, hcs], ?_⟩⟩, rfl, rfl, rfl, ?_, fun k hk hne => ?_⟩
    · show (((Sort.ahead w n).heap.modify g (onCells (putCells id 0 (flatK encE 2 d')))) ++ os)[g]? = _
      rw [Array.getElem?_append_left (by simpa [Sort.ahead] using hlt), Array.getElem?_modify]
      show (if g = g then (w.heap[g]?).map _ else _) = _
      rw [if_pos rfl, hg]
      rfl
    · rw [← hFs, put_take _ _ (by rw [hFs, hcs]; omega), hF]
    · show w.heap.size ≤ (((Sort.ahead w n).heap.modify g (onCells (putCells id 0 (flatK encE 2 d')))) ++ os).size
      rw [Array.size_append, Array.size_modify]
      exact Nat.le_add_right _ _
    · show (((Sort.ahead w n).heap.modify g (onCells (putCells id 0 (flatK encE 2 d')))) ++ os)[k]? = _
      rw [Array.getElem?_append_left (by simpa [Sort.ahead] using hk), Array.getElem?_modify, if_neg (fun e => hne (by rw [e]))]
      rfl
theorem evs_of {l : List Sp} {d' : Array (Int × Int)} (hp : PermIn 0 (evs l).toArray.size (evs l).toArray d') (hs : SortedIn (ltOf fun x y : Int × Int => Lib.compareInt x.1 y.1) 0 (evs l).toArray.size d') : Evs l d'.toList := by
  obtain ⟨h1, -, h3⟩ := hp
  constructor
  · have e1 : d'.extract 0 (evs l).toArray.size = d' := by rw [← h1]; simp
    have e2 : (evs l).toArray.extract 0 (evs l).toArray.size = (evs l).toArray := by simp
    rw [e1, e2] at h3
    simpa using h3
  · rw [List.pairwise_iff_getElem]
    intro i j hi hj hij
    have hi' : i < d'.size := by simpa using hi
    have hj' : j < d'.size := by simpa using hj
    have := hs i j (Nat.zero_le _) hij (by rw [← h1]; exact hj')
    rw [ltE] at this
    simp [hi', hj'] at this
    simpa using this
theorem evs_take {l : List Sp} {k : Nat} {s : Sp} (h : l[k]? = some s) : evs (l.take (k + 1)) = evs (l.take k) ++ [(s.1, 1), (s.2 + 1, -1)] := by
  rw [List.take_add_one, h]
  unfold evs
  rw [List.flatMap_append]
  rfl
end Go.Proofs.Ytiiaghmdajdbbaa

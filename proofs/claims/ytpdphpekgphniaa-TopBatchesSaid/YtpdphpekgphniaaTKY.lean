/- The plain law of TopBatches: a leaf is shown at its place, and no other leaf unless it is equal. Conditions: those of each theorem. -/
import Derived.Test.YtpdphpekgphniaaTKX
import Derived.Test.YtpdphpekgphniaaTKA
namespace Go.Proofs.Ytpdphpekgphniaa
open Go
set_option linter.unusedVariables false
theorem pathG_set (a : Bs) (m : Nat) : ∀ (hs : List Bs) (i : Nat), hs.length ≤ m → i < hs.length → pathG (hs.set i a) i = pathG hs i := by
  induction m with
  | zero => intro hs i h hi; omega
  | succ m ih =>
    intro hs i hm hi
    have hl : (hs.set i a).length = hs.length := List.length_set
    by_cases h2 : 2 ≤ hs.length
    · have hsp := splitN_lt hs.length h2
      by_cases hk : i < splitN hs.length
      · rw [pathG_left (hs.set i a) i (by omega) (by rw [hl]; exact hk), pathG_left hs i h2 hk, hl, List.take_set, List.drop_set_of_lt hk, ih (hs.take (splitN hs.length)) i (by rw [List.length_take]; omega) (by rw [List.length_take]; omega)]
      · rw [pathG_right (hs.set i a) i (by omega) (by rw [hl]; exact hk), pathG_right hs i h2 hk, hl, List.drop_set, if_neg hk, List.take_set_of_le (by omega), ih (hs.drop (splitN hs.length)) (i - splitN hs.length) (by rw [List.length_drop]; omega) (by rw [List.length_drop]; omega)]
    · rw [pathG_one _ _ (by omega), pathG_one _ _ h2]
theorem check_set (hs : List Bs) (i : Nat) (l : Bs) (hi : i < hs.length) : checkG (rootG hs) hs.length i l (pathG hs i) = decide (rootG (hs.set i (leafH l)) = rootG hs) := by
  have hl : (hs.set i (leafH l)).length = hs.length := List.length_set
  have h := climb_path _ (hs.set i (leafH l)) i [] (Nat.le_refl _) (by omega)
  have e : (hs.set i (leafH l)).getD i [] = leafH l := by rw [List.getD_eq_getElem?_getD, List.getElem?_set_self hi]; rfl
  rw [hl, e, List.append_nil, pathG_set _ _ hs i (Nat.le_refl _) hi] at h
  unfold checkG
  rw [h]
  simp
/-- The leaf c. -/
def lfT (sd : Int) (c : Nat) : Bs := bytesW (sd + ((c % 7 : Nat) : Int)) 20
theorem lfT_eq (v c : Nat) (hv : v < 1000) : lfT (v : Int) c = V.leafS (v + c % 7) := by
  have h7 : c % 7 < 7 := Nat.mod_lt _ (by decide)
  have e : numN ((v : Int) + ((c % 7 : Nat) : Int)) = v + c % 7 := by unfold numN; omega
  show ((rowsW _ ((20 + 31) / 32)).take 20) = _
  rw [show (20 + 31) / 32 = 0 + 1 from rfl, rowsW, rowsW, List.nil_append, chunkW, e]
  rfl
theorem lfT_len (sd : Int) (c : Nat) : (lfT sd c).length = 20 := by
  show ((rowsW _ ((20 + 31) / 32)).take 20).length = _
  rw [List.length_take, rowsW_len]
  rfl
def lvT (sd : Int) (N : Nat) : List Bs := (List.range N).map (lfT sd)
theorem lvT_len (sd : Int) (N : Nat) : (lvT sd N).length = N := by unfold lvT; rw [List.length_map, List.length_range]
theorem lvT_succ (sd : Int) (N : Nat) : lvT sd (N + 1) = lvT sd N ++ [lfT sd N] := by unfold lvT; rw [List.range_succ, List.map_append]; rfl
theorem lvT_take (sd : Int) (N M : Nat) (h : N ≤ M) : (lvT sd M).take N = lvT sd N := by unfold lvT; rw [← List.map_take, List.take_range, Nat.min_eq_left h]
theorem lvT_get (sd : Int) (N c : Nat) (h : c < N) : (lvT sd N).getD c [] = lfT sd c := by unfold lvT; rw [List.getD_eq_getElem?_getD, List.getElem?_map, List.getElem?_range h]; rfl
theorem lvT_el (sd : Int) (N : Nat) : ∀ l ∈ lvT sd N, l.length = 20 := fun l hl => by
  obtain ⟨c, _, rfl⟩ := List.mem_map.1 hl
  exact lfT_len _ _
theorem leaves_ne (v N i k : Nat) (hv : v < 1000) (hN : N ≤ 9) (hi : i < N) (hk : k < N) (hik : i % 7 ≠ k % 7) : rootG (((lvT (v : Int) N).map leafH).set i (leafH (lfT (v : Int) k))) ≠ rootG ((lvT (v : Int) N).map leafH) := by
  have h := V.leaf_ne N i k v hN hi hk hik hv
  have e : (lvT (v : Int) N).map leafH = (List.range N).map fun c => leafH (V.leafS (v + c % 7)) := by
    unfold lvT
    rw [List.map_map]
    exact List.map_congr_left fun c _ => by show leafH (lfT _ c) = _; rw [lfT_eq v c hv]
  rw [e, lfT_eq v k hv]
  exact h
/-- A leaf at a place is accepted only where it is equal. -/
theorem top_plain (sd : Int) (N i k : Nat) (h0 : 0 ≤ sd) (h1 : sd < 1000) (hN : N ≤ 9) (hi : i < N) (hk : k < N) :
    checkG (rootG ((lvT sd N).map leafH)) N i (lfT sd k) (pathG ((lvT sd N).map leafH) i) = (lfT sd i == lfT sd k) := by
  obtain ⟨v, rfl⟩ := Int.eq_ofNat_of_zero_le h0
  have hl : ((lvT (v : Int) N).map leafH).length = N := by rw [List.length_map, lvT_len]
  have h := check_set ((lvT (v : Int) N).map leafH) i (lfT (v : Int) k) (by omega)
  rw [hl] at h
  rw [h]
  have hsame : lfT (v : Int) i = lfT (v : Int) k → ((lvT (v : Int) N).map leafH).set i (leafH (lfT (v : Int) k)) = (lvT (v : Int) N).map leafH := fun e => by
    rw [← e]
    refine List.ext_getElem? fun j => ?_
    by_cases hj : i = j
    · subst hj
      rw [List.getElem?_set_self (by omega), List.getElem?_map]
      unfold lvT
      rw [List.getElem?_map, List.getElem?_range hi]
      rfl
    · rw [List.getElem?_set_ne hj]
  by_cases hik : i % 7 = k % 7
  · have e : lfT (v : Int) i = lfT (v : Int) k := by unfold lfT; rw [hik]
    rw [hsame e, e]
    simp
  · have hne := leaves_ne v N i k (by omega) hN hi hk hik
    rw [decide_eq_false hne]
    cases e : (lfT (v : Int) i == lfT (v : Int) k) with
    | false => rfl
    | true => exact absurd (congrArg rootG (hsame (eq_of_beq e))) hne
theorem top_self (sd : Int) (N i : Nat) (hi : i < N) : checkG (rootG ((lvT sd N).map leafH)) N i (lfT sd i) (pathG ((lvT sd N).map leafH) i) = true := by
  have hl : ((lvT sd N).map leafH).length = N := by rw [List.length_map, lvT_len]
  have h := check_set ((lvT sd N).map leafH) i (lfT sd i) (by omega)
  rw [hl] at h
  rw [h]
  refine decide_eq_true (congrArg rootG ?_)
  refine List.ext_getElem? fun j => ?_
  by_cases hj : i = j
  · subst hj
    rw [List.getElem?_set_self (by omega), List.getElem?_map]
    unfold lvT
    rw [List.getElem?_map, List.getElem?_range hi]
    rfl
  · rw [List.getElem?_set_ne hj]
end Go.Proofs.Ytpdphpekgphniaa

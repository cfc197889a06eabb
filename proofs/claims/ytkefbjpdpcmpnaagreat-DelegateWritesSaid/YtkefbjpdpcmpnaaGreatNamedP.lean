/- The names of tags: as runes and as bytes. No program in sight. -/
import Derived.Test.YtkefbjpdpcmpnaaGreatRoughP
import Derived.Shelf.GgClosure.StringsIndexFuncTop
import Derived.Laws.RangeString
import Derived.Laws.RangeAny
namespace Go.Proofs.YtkefbjpdpcmpnaaGreat
open Go.RowKit
set_option linter.unusedVariables false
/-- A rune that no name has. -/
def runeP (c : Nat) : Bool := (decide (c < 65) || decide (90 < c)) && (decide (c < 48) || decide (57 < c))
theorem strB_size (l : Bs) : (strB l).size = l.length := rfl
theorem strB_get (l : Bs) (k : Nat) (h : k < (strB l).size) (h2 : k < l.length) : (strB l)[k] = l[k] := rfl
theorem runeP_up (x : UInt8) : runeP x.toNat = !(upB x) := by
  unfold runeP upB
  rw [Bool.eq_iff_iff]
  simp <;> omega
theorem runeP_high (c : Nat) (h : 128 ≤ c) : runeP c = true := by
  unfold runeP
  simp <;> omega
theorem upB_high (x : UInt8) (h : 128 ≤ x.toNat) : upB x = false := by
  unfold upB
  simp <;> omega
theorem idx_named (l : Bs) (n : Nat) : ∀ pos, l.length - pos ≤ n → pos ≤ l.length → decide (0 ≤ Lib.idxFuncFrom runeP true (strB l) n pos) = !((l.drop pos).all upB) := by
  induction n with
  | zero =>
    intro pos h1 h2
    have : pos = l.length := by omega
    subst this
    simp [Lib.idxFuncFrom]
  | succ n ih =>
    intro pos h1 h2
    rw [Lib.idxFuncFrom]
    by_cases hp : pos < l.length
    · rw [if_pos (by rw [strB_size]; exact hp), List.drop_eq_getElem_cons hp, List.all_cons]
      by_cases hb : l[pos].toNat < 128
      · rw [decode_ascii (strB l) pos hp hb]
        have hr := runeP_up l[pos]
        have h9 : (strB l)[pos]'hp = l[pos] := rfl
        rw [h9]
        dsimp only
        rw [hr]
        cases hu : upB l[pos] with
        | true =>
          rw [if_neg (by simp)]
          have := ih (pos + 1) (by omega) (by omega)
          rw [this]; simp
        | false => simp
      · have hd := decode_high (strB l) pos hp (by show 128 ≤ l[pos].toNat; omega)
        rw [runeP_high _ hd.1, upB_high _ (by omega), if_pos rfl]
        simp
    · have : pos = l.length := by omega
      subst this
      rw [if_neg (by rw [strB_size]; omega)]
      simp
theorem named_idx (l : Bs) (h : l.length = 4) : (!decide (0 ≤ Lib.idxFunc runeP true (strB l))) = namedG l := by
  unfold Lib.idxFunc namedG
  rw [idx_named l _ 0 (by rw [strB_size]; omega) (by omega)]
  simp [h]
end Go.Proofs.YtkefbjpdpcmpnaaGreat

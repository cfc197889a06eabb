/- Contracts of rough.named and sectimeref28.named: whether a name is one of a tag. No conditions. -/
import Derived.Test.YtkefbjpdpcmpnaaGreatNamedP
import Derived.Test.YtkefbjpdpcmpnaaGreatShelf
namespace Go.Proofs.YtkefbjpdpcmpnaaGreat
open Go.RowKit
set_option linter.unusedVariables false
attribute [local go_sem ↓] Go.wp_at_zero Go.wp_at_succ
theorem runeP_pays (w : World) : PredAt Tryz.prog 219 #[] encR runeP w := fun W r _ => by
  unfold FnGives
  by_cases h1 : r < 65 <;> by_cases h2 : 90 < r <;> by_cases h3 : r < 48 <;> by_cases h4 : 57 < r
  all_goals try (exfalso; omega)
  all_goals
    have z1 : (r : Int) < 65 ↔ r < 65 := by omega
    have z2 : (90 : Int) < (r : Int) ↔ 90 < r := by omega
    have z3 : (r : Int) < 48 ↔ r < 48 := by omega
    have z4 : (57 : Int) < (r : Int) ↔ 57 < r := by omega
    go_enter Tryz.func219, Tryz.ntmps219
    go_wp2
    all_goals first | (exfalso; omega) | (go_ret; exact ⟨by simp [runeP, h1, h2, h3, h4], 0, rfl⟩)
theorem named_any (s : Bs) (w : World) : Calls Tryz.prog 197 #[.string (strB s)] w (BoolPost (namedG s) w) := by
  have hsz := strB_size s
  by_cases h : s.length = 4
  · have hid := named_idx s h
    have hC := Lib.hid (Tryz.strings_ContainsFunc 219 #[] (enters_of Tryz.func219 (by kernel_rfl) rfl) runeP (strB s) w (runeP_pays w))
    generalize namedG s = V at *
    generalize decide (0 ≤ Lib.idxFunc runeP true (strB s)) = D at *
    rw [h] at hsz
    generalize strB s = S at *
    replace hid := Lib.hid hid
    clear h
    go_enter Tryz.func197, Tryz.ntmps197
    go_wp2_with fail
    refine hC.out.mono ?_
    rintro e w1 ⟨rfl, hb1⟩
    dsimp only
    go_wp2_with fail
    go_ret
    exact ⟨ret_bool hid.out, hb1⟩
  · have hv : Hid (namedG s = false) := by show _ = _; simp [namedG, h]
    have h2 : ¬ ((strB s).size = 4) := by rw [hsz]; exact h
    have h3 : ¬ (((strB s).size : Int) = 4) := by omega
    clear hsz h
    generalize namedG s = V at *
    generalize strB s = S at *
    go_enter Tryz.func197, Tryz.ntmps197
    go_wp2_with fail
    go_ret
    exact ⟨ret_bool hv.out.symm, Below.refl _ _⟩
theorem take_all (s : Bs) (k : Nat) (x : UInt8) (h : s[k]? = some x) : (s.take (k + 1)).all upB = ((s.take k).all upB && upB x) := by
  rw [take_one s k x h]; simp
theorem rnamed_any (s : Bs) (w : World) : Calls Tryz.prog 147 #[.string (strB s)] w (BoolPost (namedG s) w) := by
  have hsz := strB_size s
  by_cases h : s.length = 4
  · rw [h] at hsz
    go_enter Tryz.func147, Tryz.ntmps147
    go_wp2_with fail
    go_loopw [3] (fun t wr => ∃ k : Nat, k ≤ 4 ∧ t = .int .i64 k ∧ (s.take k).all upB = true ∧ Hid (Below w.heap.size w wr)) (fun t _ => 4 - (intOf t).toNat)
    case atStart => exact ⟨0, by omega, rfl, rfl, Below.refl _ _⟩
    case round =>
      obtain ⟨k, hk, rfl, ha, hb⟩ := hrel
      by_cases hlt : k < 4
      · obtain ⟨x, hx⟩ : ∃ x, s[k]? = some x := ⟨s[k], List.getElem?_eq_getElem (by omega)⟩
        have hr : ∀ W : World, (Instr.index 9 (.string (strB s)) (.int .i64 (k : Int))).run Tryz.prog W = .ok (.int .u8 (x.toNat : Int)) W := fun W => by
          obtain ⟨h3, h4⟩ := List.getElem?_eq_some_iff.1 hx
          rw [run_index_string (h := Tryz.underlying9), dif_pos ⟨by omega, by omega⟩]
          have h5 : (strB s)[k]'(by omega) = x := h4
          simp only [Int.toNat_natCast, h5]
        have i0 : (k : Int) < 4 := by omega
        have hta := take_all s k x hx
        rw [ha, Bool.true_and] at hta
        replace hta := Lib.hid hta
        replace hx := Lib.hid hx
        cases hu : upB x with
        | true =>
          have hu2 : (65 ≤ x.toNat ∧ x.toNat ≤ 90) ∨ (¬ 65 ≤ x.toNat ∧ 48 ≤ x.toNat ∧ x.toNat ≤ 57) := by
            unfold upB at hu
            simp at hu
            omega
          replace hu := Lib.hid hu
          rcases hu2 with ⟨a1, a2⟩ | ⟨a1, a2, a3⟩
          · have z1 : (65 : Int) ≤ (x.toNat : Int) := by omega
            have z2 : (x.toNat : Int) ≤ 90 := by omega
            go_wp2_with fail
            go_roundw
            case rel => exact ⟨k + 1, by omega, by go_num, by rw [hta.out, hu.out], hb⟩
            case measure => simp [intOf]; omega
          · have z1 : ¬ (65 : Int) ≤ (x.toNat : Int) := by omega
            have z2 : (48 : Int) ≤ (x.toNat : Int) := by omega
            have z3 : (x.toNat : Int) ≤ 57 := by omega
            go_wp2_with fail
            go_roundw
            case rel => exact ⟨k + 1, by omega, by go_num, by rw [hta.out, hu.out], hb⟩
            case measure => simp [intOf]; omega
        | false =>
          have hv : Hid (namedG s = false) := by
            show _ = _
            have h9 : s.all upB = false := by
              rw [List.all_eq_false]
              exact ⟨x, List.mem_of_getElem? hx.out, by rw [hu]; simp⟩
            simp only [namedG, h9, Bool.and_false]
          generalize namedG s = V at *
          have hu2 : (65 ≤ x.toNat ∧ 90 < x.toNat) ∨ (¬ 65 ≤ x.toNat ∧ ¬ 48 ≤ x.toNat) ∨ (¬ 65 ≤ x.toNat ∧ 48 ≤ x.toNat ∧ 57 < x.toNat) := by
            unfold upB at hu
            simp at hu
            omega
          replace hu := Lib.hid hu
          rcases hu2 with ⟨a1, a2⟩ | ⟨a1, a2⟩ | ⟨a1, a2, a3⟩
          · have z1 : (65 : Int) ≤ (x.toNat : Int) := by omega
            have z2 : ¬ (x.toNat : Int) ≤ 90 := by omega
            have z3 : (48 : Int) ≤ (x.toNat : Int) := by omega
            have z4 : ¬ (x.toNat : Int) ≤ 57 := by omega
            go_wp2_with fail
            go_returns
            exact ⟨ret_bool hv.out.symm, hb.out⟩
          · have z1 : ¬ (65 : Int) ≤ (x.toNat : Int) := by omega
            have z3 : ¬ (48 : Int) ≤ (x.toNat : Int) := by omega
            go_wp2_with fail
            go_returns
            exact ⟨ret_bool hv.out.symm, hb.out⟩
          · have z1 : ¬ (65 : Int) ≤ (x.toNat : Int) := by omega
            have z3 : (48 : Int) ≤ (x.toNat : Int) := by omega
            have z4 : ¬ (x.toNat : Int) ≤ 57 := by omega
            go_wp2_with fail
            go_returns
            exact ⟨ret_bool hv.out.symm, hb.out⟩
      · have i0 : ¬ (k : Int) < 4 := by omega
        have hv : Hid (namedG s = true) := by
          show _ = _
          rw [show k = 4 by omega, List.take_of_length_le (by omega)] at ha
          simp [namedG, ha, h]
        generalize namedG s = V at *
        clear ha
        go_wp2_with fail
        go_returns
        exact ⟨ret_bool hv.out.symm, hb.out⟩
  · have hv : Hid (namedG s = false) := by show _ = _; simp [namedG, h]
    have h2 : ¬ ((strB s).size = 4) := by rw [hsz]; exact h
    have h3 : ¬ (((strB s).size : Int) = 4) := by omega
    clear hsz h
    generalize namedG s = V at *
    generalize strB s = S at *
    go_enter Tryz.func147, Tryz.ntmps147
    go_wp2_with fail
    go_ret
    exact ⟨ret_bool hv.out.symm, Below.refl _ _⟩
end Go.Proofs.YtkefbjpdpcmpnaaGreat

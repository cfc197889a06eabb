/- Contracts of sectimecase.Light and sectimelaw31.known. Conditions: the list is seen. -/
import Derived.Test.YtdfnandhdgbgeaaCVNil
import Derived.Test.YtdfnandhdgbgeaaRandom
namespace Go.Proofs.Ytdfnandhdgbgeaa
open Go Go.RowKit
set_option linter.unusedVariables false
attribute [local go_sem ↓] Go.wp_at_zero Go.wp_at_succ
def lightG (ls : List Bs) (m b : Nat) : Bool := decide (ls.length ≤ m) && ls.all fun l => decide (l.length ≤ b)
set_option maxRecDepth 100000 in
theorem klight_any (B : Nat) (u : Value) (ls : List Bs) (m b : Nat) (w : World) (hu : SeesL w B u ls) (hm : m ≤ 1000000) (hb : b ≤ 1000000) :
    Calls Try.prog 8 #[u, .int .i64 (m : Int), .int .i64 (b : Int)] w fun e w' => e = .returned (.bool (lightG ls m b)) ∧ w' = w := by
  obtain ⟨A, c, rfl, hc1, hc2⟩ := hu.mk_
  have hu := Lib.hid hu
  have hmx : ls.length ≤ 9223372036854775807 := by unfold maxLen at hc2; omega
  by_cases h1 : ls.length ≤ m
  · have i0 : decide (m < ls.length) = false := by simp; omega
    have i0' : ¬ (m : Int) < (ls.length : Int) := by omega
    go_enter Try.func8, Try.ntmps8
    go_wp2_with fail
    go_loop [7] (fun t => ∃ k : Nat, k ≤ ls.length ∧ t = .int .i64 k ∧ Hid (((ls.take k).all fun l => decide (l.length ≤ b)) = true)) (fun t => ls.length - (intOf t).toNat)
    case atStart => exact ⟨0, by omega, rfl, by show _ = _; rfl⟩
    case round =>
      obtain ⟨k, hk, rfl, hal⟩ := hrel
      by_cases hlt : k < ls.length
      · obtain ⟨bb, o, rfl, hbB, hcell⟩ := SeesL.at_ hu.out (by omega)
        obtain ⟨A', c', x0, -, -, s0⟩ := hcell k hlt
        have hst : ls.take (k + 1) = ls.take k ++ [ls.getD k []] := by
          rw [List.take_add_one, List.getElem?_eq_getElem hlt, List.getD_eq_getElem?_getD, List.getElem?_eq_getElem hlt]
          rfl
        have hbad : Hid (b < (ls.getD k []).length → lightG ls m b = false) := fun h => by
          have hmem : ls.getD k [] ∈ ls := by
            rw [List.getD_eq_getElem?_getD, List.getElem?_eq_getElem hlt]
            exact List.getElem_mem hlt
          unfold lightG
          rw [Bool.and_eq_false_iff]
          right
          rw [List.all_eq_false]
          exact ⟨_, hmem, fun e => by have := of_decide_eq_true e; omega⟩
        generalize ls.getD k [] = e at *
        have j0 : (k : Int) < (ls.length : Int) := by omega
        clear hcell s0
        replace hst := Lib.hid hst
        by_cases h2 : e.length ≤ b
        · have j1 : decide (b < e.length) = false := by simp; omega
          go_wp2_with fail
          go_round
          case rel => exact ⟨k + 1, by omega, by go_num, by show _ = _; rw [hst.out, List.all_append, hal.out]; simp [h2]⟩
          case measure => simp [intOf]; omega
        · have j1 : decide (b < e.length) = true := by simp; omega
          have hbd := Lib.hid (hbad.out (by omega))
          go_wp2_with fail
          go_ret
          exact ⟨ret_bool (by rw [hbd.out]), rfl⟩
      · have hk9 : k = ls.length := by omega
        subst hk9
        have j0 : ¬ (ls.length : Int) < (ls.length : Int) := by omega
        have hg : Hid (lightG ls m b = true) := by
          show _ = _
          have h9 := hal.out
          rw [List.take_of_length_le (Nat.le_refl _)] at h9
          unfold lightG
          rw [h9]
          simp [h1]
        go_wp2_with fail
        go_ret
        exact ⟨ret_bool (by rw [hg.out]), rfl⟩
  · have i0 : decide (m < ls.length) = true := by simp; omega
    have hg : Hid (lightG ls m b = false) := by show _ = _; unfold lightG; simp [h1]
    go_enter Try.func8, Try.ntmps8
    go_wp2_with fail
    go_ret
    exact ⟨ret_bool (by rw [hg.out]), rfl⟩
set_option maxRecDepth 100000 in
theorem cknown_any (w : World) : Calls Try.prog 9 #[] w (BoolPost true w) := by
  have hmk : (Instr.makeSlice 22 (.int .i64 32) (.int .i64 32)).run Try.prog w = .ok (.slice (some ⟨w.heap.size, 0, none⟩) 32 32) (w.alloc (.cells (vb (List.replicate 32 0)).toArray 5)) := make_bytes 32 (by omega) w
  have hu0 := (own_made w (List.replicate 32 0) (by simp [maxLen]) w.heap.size (Nat.le_refl _)).sees
  rw [List.length_replicate] at hu0
  have hl : (List.replicate 32 (0 : UInt8)).length = 32 := List.length_replicate
  have hb0 := balloc w (.cells (vb (List.replicate 32 0)).toArray 5)
  generalize List.replicate 32 (0 : UInt8) = seed at *
  generalize w.alloc (.cells (vb seed).toArray 5) = w0 at *
  generalize hG : w.heap.size = G0 at *
  have hb0' : Below w.heap.size w w0 := by rw [hG]; exact hb0
  replace hb0' := Lib.hid hb0'
  replace hG := Lib.hid hG
  have hno := nonce_any w0.heap.size w0.heap.size (.slice none 0 0) (.slice (some ⟨G0, 0, none⟩) 32 32) [] seed w0 (SeesB.nil _ _) (Nat.le_refl _) hu0 (Nat.le_refl _)
  have hC : nonceC [] seed = 0 := by simp [nonceC, hl]
  have hGG : nonceG [] seed = sha seed := by rw [nonceG, if_pos hC]; rfl
  unfold NonP at hno
  rw [hC, hGG] at hno
  replace hno := Lib.hid hno
  replace hl := Lib.hid hl
  clear hC hGG hb0
  go_enter Try.func9, Try.ntmps9
  go_wp2_with fail
  refine hno.out.mono ?_
  rintro e w1 ⟨v1, rfl, f1, hb1⟩
  have s1 := f1.sees
  obtain ⟨A1, c1, rfl, -, -⟩ := f1.sees.mk_
  have hu1 := (hu0.below hb1).more hb1.size
  replace hb0' := Lib.hid (bgo hb0'.out hb1)
  clear hno f1 hu0 hmk
  dsimp only
  go_wp2_with fail
  refine (cverify_nil w1).mono ?_
  rintro e w2 ⟨rfl, hb2⟩
  have hu2 := (hu1.below hb2).more hb2.size
  have s2 := (s1.below hb2).more hb2.size
  have hs := Lib.hid (rsum_any _ _ seed w2 hu2 (Nat.le_refl _) (by have := hl.out; omega))
  replace hb0' := Lib.hid (bgo hb0'.out hb2)
  clear hu1 s1 hb2
  dsimp only
  go_wp2_with fail
  refine hs.out.mono ?_
  rintro e w3 ⟨v3, rfl, f3, hb3⟩
  have hsm := Lib.hid (rsame_any _ _ _ _ _ _ w3 ((s2.below hb3).more hb3.size) f3.sees)
  obtain ⟨A3, c3, rfl, -, -⟩ := f3.sees.mk_
  replace hb0' := Lib.hid (bgo hb0'.out hb3)
  clear hu2 s2 hb3 f3 hs
  dsimp only
  go_wp2_with fail
  refine hsm.out.mono ?_
  rintro e w4 ⟨rfl, rfl⟩
  dsimp only
  go_wp2_with fail
  go_ret
  exact ⟨ret_bool (by simp), hb0'.out⟩
end Go.Proofs.Ytdfnandhdgbgeaa

/- What a law leans on beyond the base: contracts, plain functions, walks. Conditions: those of each theorem. -/
import Derived.Test.YtgehkgjllhkhoaaGreatMLogD
set_option linter.unusedVariables false
set_option linter.unusedSimpArgs false
namespace Go.Proofs.YtgehkgjllhkhoaaGreat
open Go Go.RowKit
set_option linter.unusedVariables false
set_option linter.unusedSimpArgs false
attribute [local go_sem ↓] Go.wp_at_zero Go.wp_at_succ
theorem decOut_nil {ls : List Lk} {f s q : Int} (h : DecOut [] ls f s q) : q = 3 := by
 have h0 : DecOut [] [] 0 0 3 := by
  refine ⟨some [], ⟨by simp, rfl⟩, none, fun ls f s _ _ _ e => ?_, rfl, rfl, rfl, rfl⟩
  have := congrArg List.length e
  rw [encF_len] at this
  simp at this
 exact (h.uniq h0).2.2.2
theorem ladd_nil {ls : List Lk} {f s q : Int} (h : DecOut [] ls f s q) : laddR [] [] (dchkC ls f s q) = ([], 0, 3) := by
 obtain rfl := decOut_nil h
 rfl
set_option maxRecDepth 100000 in
theorem lsameI_true (u v : Value) (xs : List Int) (w : World) (hu : SeesT w w.heap.size u xs) (hv : SeesT w w.heap.size v xs) :
 Calls Tryz.prog 45 #[u, v] w (BoolPost true w) := by
 obtain ⟨A, c, rfl, hc1, hc2⟩ := hu.mk_
 obtain ⟨A', c', rfl, hc1', hc2'⟩ := hv.mk_
 have hm : xs.length ≤ 9223372036854775807 := by unfold maxLen at hc2; omega
 replace hu := Lib.hid hu
 replace hv := Lib.hid hv
 go_enter Tryz.func45, Tryz.ntmps45
 go_wp2_with fail
 go_loopw [5] (fun i wr => ∃ k m : Nat, k ≤ xs.length ∧ i = .int .i64 k ∧ wr = w.drewN m) (fun i _ => xs.length - (intOf i).toNat)
 case atStart => exact ⟨0, 0, Nat.zero_le _, rfl, rfl⟩
 case round =>
  obtain ⟨k, m, hk, rfl, rfl⟩ := hrel
  by_cases hlt : k < xs.length
  · obtain ⟨b, o, rfl, hb, hcell⟩ := SeesT.at_ hu.out (by omega)
    obtain ⟨b', o', rfl, hb', hcell'⟩ := SeesT.at_ hv.out (by omega)
    have x0 := hcell k hlt
    have y0 := hcell' k hlt
    clear hcell hcell'
    generalize xs.getD k 0 = x at *
    have i0 : (0 : Int) ≤ (k : Int) := by omega
    have i1 : (k : Int) < (xs.length : Int) := by omega
    go_wp2
    go_quiet (fail)
    go_wp2
    go_roundw
    case rel => exact ⟨k + 1, _, by omega, by go_num, rfl⟩
    case measure => simp [intOf]; omega
  · have i0 : ¬ (k : Int) < (xs.length : Int) := by omega
    go_wp2
    go_ret
    exact ⟨rfl, below_drewN (Below.refl _ _) _⟩
set_option maxRecDepth 100000 in
set_option maxHeartbeats 4000000 in
theorem lknown_any (w : World) : Calls Tryz.prog 29 #[] w (BoolPost true w) := by
 have hhd := Lib.hid (lhead_any [] (.slice none 0 0) w (OwnL.nil w 0).sees (by simp) (by simp))
 have had := Lib.hid (fun W => ladd_any [] [] (.slice none 0 0) (.slice none 0 0) W (OwnL.nil W 0).sees (SeesB.nil _ _) (by simp) (by simp) (by simp))
 have hsm := Lib.hid (fun W => rsum_any W.heap.size (.slice none 0 0) [] W (SeesB.nil _ _) (Nat.le_refl _) (by simp))
 go_enter Tryz.func29, Tryz.ntmps29
 go_wp2_with fail
 refine hhd.out.mono ?_
 rintro e w1 ⟨v1, rfl, s1, hb1⟩
 rw [show rootG (([] : List Bs).map leafH) = sha [] by rw [List.map_nil, rootG]; rfl] at s1
 obtain ⟨A1, c1, rfl, -, -⟩ := s1.mk_
 dsimp only
 go_wp2_with fail
 refine (had.out w1).mono ?_
 rintro e w2 ⟨v2, ls, f, s, q, hO, rfl, s2, hb2⟩
 rw [ladd_nil hO] at s2 ⊢
 obtain ⟨A2, c2, rfl, -, -⟩ := s2.mk_
 have hal := balloc w2 (.cells #[.slice A2 ([] : List Bs).length c2] 63)
 rw [List.length_nil] at hal
 have hbw := bgo hb1 (bgo hb2 hal)
 replace s1 := seesB_of s1 (Nat.le_refl _) (bgo hb2 hal)
 clear hal hb1 hb2 hhd had hO s2
 dsimp only
 go_upto_region 3 with (fail)
 simp only [List.length_nil]
 generalize w2.alloc (.cells #[.slice A2 0 c2] 63) = W2 at *
 go_wp2_with fail
 refine (hsm.out _).mono ?_
 rintro e w3 ⟨v3, rfl, o3, hb3⟩
 have s3 := o3.sees
 obtain ⟨A3, c3, rfl, -, -⟩ := s3.mk_
 have hsa := rsame_any _ _ _ _ _ _ w3 (seesB_of s1 (Nat.le_refl _) hb3) s3
 rw [show (sha [] == sha []) = true from beq_self_eq_true _] at hsa
 replace hsa := Lib.hid hsa
 replace hbw := Lib.hid (bgo hbw hb3)
 clear s1 s3 o3 hb3 hsm
 dsimp only
 go_wp2_with fail
 refine hsa.out.mono ?_
 rintro e w4 ⟨rfl, hw4⟩
 obtain rfl := hw4.symm
 dsimp only
 go_wp2_with fail
 go_ret
 exact ⟨rfl, hbw.out⟩
def lightG (ls : List Bs) (m b : Nat) : Bool := decide (ls.length ≤ m) && ls.all fun l => decide (l.length ≤ b)
set_option maxRecDepth 100000 in
theorem klight_any (B : Nat) (u : Value) (ls : List Bs) (m b : Nat) (w : World) (hu : SeesL w B u ls) (hm : m ≤ 1000000) (hb : b ≤ 1000000) :
 Calls Tryz.prog 35 #[u, .int .i64 (m : Int), .int .i64 (b : Int)] w fun e w' => e = .returned (.bool (lightG ls m b)) ∧ w' = w := by
 obtain ⟨A, c, rfl, hc1, hc2⟩ := hu.mk_
 have hu := Lib.hid hu
 have hmx : ls.length ≤ 9223372036854775807 := by unfold maxLen at hc2; omega
 by_cases h1 : ls.length ≤ m
 · have i0 : decide (m < ls.length) = false := by simp; omega
   have i0' : ¬ (m : Int) < (ls.length : Int) := by omega
   go_enter Tryz.func35, Tryz.ntmps35
   go_wp2_with fail
   go_loop [7] (fun t => ∃ k : Nat, k ≤ ls.length ∧ t = .int .i64 k ∧ Hid (((ls.take k).all fun l => decide (l.length ≤ b)) = true)) (fun t => ls.length - (intOf t).toNat)
   case atStart => exact ⟨0, by omega, rfl, by show _ = _; rfl⟩
   case round =>
    obtain ⟨k, hk, rfl, hal⟩ := hrel
    by_cases hlt : k < ls.length
    · obtain ⟨bb, o, rfl, hbB, hcell⟩ := SeesL.at_ hu.out (by omega)
      obtain ⟨A', c', x0, -, -, s0⟩ := hcell k hlt
      have hst : ls.take (k + 1) = ls.take k ++ [ls.getD k []] := by
       rw [List.take_add_one, List.getElem?_eq_getElem hlt, List.getD_eq_getElem?_getD, List.getElem?_eq_getElem hlt]
       rfl
      have hbad : Hid (b < (ls.getD k []).length → lightG ls m b = false) := fun h => by
       have hmem : ls.getD k [] ∈ ls := by
        rw [List.getD_eq_getElem?_getD, List.getElem?_eq_getElem hlt]
        exact List.getElem_mem hlt
       unfold lightG
       rw [Bool.and_eq_false_iff]
       right
       rw [List.all_eq_false]
       exact ⟨_, hmem, fun e => by have := of_decide_eq_true e; omega⟩
      generalize ls.getD k [] = e at *
      have j0 : (k : Int) < (ls.length : Int) := by omega
      clear hcell s0
      replace hst := Lib.hid hst
      by_cases h2 : e.length ≤ b
      · have j1 : decide (b < e.length) = false := by simp; omega
        go_wp2_with fail
        go_round
        case rel => exact ⟨k + 1, by omega, by go_num, by show _ = _; rw [hst.out, List.all_append, hal.out]; simp [h2]⟩
        case measure => simp [intOf]; omega
      · have j1 : decide (b < e.length) = true := by simp; omega
        have hbd := Lib.hid (hbad.out (by omega))
        go_wp2_with fail
        go_ret
        exact ⟨ret_bool (by rw [hbd.out]), rfl⟩
    · have hk9 : k = ls.length := by omega
      subst hk9
      have j0 : ¬ (ls.length : Int) < (ls.length : Int) := by omega
      have hg : Hid (lightG ls m b = true) := by
       show _ = _
       have h9 := hal.out
       rw [List.take_of_length_le (Nat.le_refl _)] at h9
       unfold lightG
       rw [h9]
       simp [h1]
      go_wp2_with fail
      go_ret
      exact ⟨ret_bool (by rw [hg.out]), rfl⟩
 · have i0 : decide (m < ls.length) = true := by simp; omega
   have hg : Hid (lightG ls m b = false) := by show _ = _; unfold lightG; simp [h1]
   go_enter Tryz.func35, Tryz.ntmps35
   go_wp2_with fail
   go_ret
   exact ⟨ret_bool (by rw [hg.out]), rfl⟩
end Go.Proofs.YtgehkgjllhkhoaaGreat

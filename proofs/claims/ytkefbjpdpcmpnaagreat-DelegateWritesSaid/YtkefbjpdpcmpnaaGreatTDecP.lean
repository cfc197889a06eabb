/- Coarse-time messages: laws of places and tags. No program in sight. Contract of bytes.Clone. -/
import Derived.Test.YtkefbjpdpcmpnaaGreatPlaces
namespace Go.Proofs.YtkefbjpdpcmpnaaGreat
open Go.RowKit
set_option linter.unusedVariables false
attribute [local go_sem ↓] Go.wp_at_zero Go.wp_at_succ
set_option maxRecDepth 100000 in
theorem bclone_any (B : Nat) (u : Value) (bs : Bs) (w : World) (hu : SeesB w B u bs) (hB : B ≤ w.heap.size) (hlen : bs.length ≤ 1099511627776) :
    Calls Tryz.prog 125 #[u] w (Gives bs w) := by
  obtain ⟨A, c, rfl, hc1, hc2⟩ := hu.mk_
  cases A with
  | none =>
    have h0 : bs = [] := by
      rcases Nat.eq_zero_or_pos bs.length with h0 | h0
      · exact List.eq_nil_of_length_eq_zero h0
      · obtain ⟨b, o, e, _⟩ := hu.at_ h0
        cases e
    subst h0
    have hnil : ∀ W, (binOp .eql 23 (.slice none 0 c) (.slice none 0 0)).run Tryz.prog W = .ok (.bool true) W := fun W => Lib.run_eql_slice_nil_nil W _ _ Tryz.underlying23
    go_enter Tryz.func125, Tryz.ntmps125
    go_wp2_with fail
    go_ret
    exact ⟨_, rfl, World.ownsRow_nil _ _ _ _, Below.refl _ _⟩
  | some a =>
    have hnil : ∀ W, (binOp .eql 23 (.slice (some a) bs.length c) (.slice none 0 0)).run Tryz.prog W = .ok (.bool false) W := fun W => Lib.run_eql_slice_some_nil W _ _ _ Tryz.underlying23
    have hl := balloc w (.cells #[] 5)
    have ho := own_made w [] (Nat.zero_le _) w.heap.size (Nat.le_refl _)
    have hs := hu.below (hl.mono hB)
    clear hu
    go_enter Tryz.func125, Tryz.ntmps125
    go_wp2_with (at_builtin; refine wpList_app (by rfl) _ _ rfl w.heap.size _ [] rfl ho B _ bs rfl hs (by simp; omega) hl.size ?_)
    intro v' w' h2 hb2
    go_wp2_with fail
    go_ret
    exact ⟨v', rfl, h2, hl.trans hb2⟩
theorem placesOk_get (b : Bs) (size m : Nat) (h : placesOk b size m = true) : ∀ j, j < m → placeN b (j + 1) % 4 = 0 ∧ fromN b j ≤ placeN b (j + 1) ∧ placeN b (j + 1) ≤ size := by
  induction m with
  | zero => intro j hj; omega
  | succ m ih =>
    intro j hj
    rw [placesOk] at h
    simp at h
    by_cases hjm : j = m
    · subst hjm
      exact ⟨h.2.1.1, h.2.1.2, h.2.2⟩
    · exact ih h.1 j (by omega)
theorem from_le (b : Bs) (n size : Nat) (h : placesOk b size (n - 1) = true) (i : Nat) (hi : i < n) : fromN b i ≤ size := by
  cases i with
  | zero => simp [fromN]
  | succ i =>
    have := (placesOk_get b size _ h i (by omega)).2.2
    simpa [fromN] using this
theorem at_le (b : Bs) (n size : Nat) (h : placesOk b size (n - 1) = true) (i : Nat) (hi : i < n) : atN b n size i ≤ atN b n size (i + 1) ∧ atN b n size (i + 1) ≤ size := by
  unfold atN
  rw [if_pos hi]
  by_cases h2 : i + 1 < n
  · rw [if_pos h2]
    have := placesOk_get b size _ h i (by omega)
    have e : fromN b (i + 1) = placeN b (i + 1) := by simp [fromN]
    rw [e]
    exact ⟨this.2.1, this.2.2⟩
  · rw [if_neg h2]
    exact ⟨from_le b n size h i hi, Nat.le_refl _⟩
def listN (b : Bs) (n size : Nat) : List Nat := (List.range n).map (fromN b) ++ [size]
theorem listN_len (b : Bs) (n size : Nat) : (listN b n size).length = n + 1 := by simp [listN]
theorem listN_get (b : Bs) (n size i : Nat) (h : i ≤ n) : (listN b n size).getD i 0 = atN b n size i := by
  unfold listN atN
  rw [List.getD_eq_getElem?_getD]
  by_cases h2 : i < n
  · rw [if_pos h2, List.getElem?_append_left (by simpa using h2)]
    simp [h2]
  · rw [if_neg h2, List.getElem?_append_right (by simp; omega)]
    simp [show i - n = 0 by omega]
theorem tagsN_step (b : Bs) (n k : Nat) : (List.range (k + 1)).map (tagN b n) = (List.range k).map (tagN b n) ++ [tagN b n k] := by
  rw [List.range_succ, List.map_append]; rfl
theorem dec_bad {b : Bs} {c : Int} (h : decC b = c) (hc : c ≠ 0) : decT b = [] := by
  unfold decT
  rw [if_neg (by rw [h]; exact hc)]
theorem dec_long (b : Bs) (h : 2048 < b.length) : decC b = 2 := by unfold decC; rw [if_pos h]
theorem dec_short (b : Bs) (h : ¬ 2048 < b.length) (h1 : b.length < 4) : decC b = 1 := by unfold decC; rw [if_neg h, if_pos h1]
theorem dec_limit (b : Bs) (h : ¬ 2048 < b.length) (h1 : ¬ b.length < 4) (h2 : placeN b 0 < 1 ∨ 16 < placeN b 0) : decC b = 8 := by unfold decC; rw [if_neg h, if_neg h1, if_pos h2]
theorem dec_short2 (b : Bs) (h : ¬ 2048 < b.length) (h1 : ¬ b.length < 4) (h2 : ¬ (placeN b 0 < 1 ∨ 16 < placeN b 0)) (h3 : b.length < 8 * placeN b 0) : decC b = 1 := by
  unfold decC; rw [if_neg h, if_neg h1, if_neg h2, if_pos h3]
theorem dec_form (b : Bs) (h : ¬ 2048 < b.length) (h1 : ¬ b.length < 4) (h2 : ¬ (placeN b 0 < 1 ∨ 16 < placeN b 0)) (h3 : ¬ b.length < 8 * placeN b 0)
    (h4 : ¬ (placesOk b (b.length - 8 * placeN b 0) (placeN b 0 - 1) = true ∧ (b.length - 8 * placeN b 0) % 4 = 0)) : decC b = 3 := by
  unfold decC; rw [if_neg h, if_neg h1, if_neg h2, if_neg h3, if_neg h4]
theorem dec_tags (b : Bs) (h : ¬ 2048 < b.length) (h1 : ¬ b.length < 4) (h2 : ¬ (placeN b 0 < 1 ∨ 16 < placeN b 0)) (h3 : ¬ b.length < 8 * placeN b 0)
    (h4 : placesOk b (b.length - 8 * placeN b 0) (placeN b 0 - 1) = true ∧ (b.length - 8 * placeN b 0) % 4 = 0) : decC b = checkT [] (tagsN b (placeN b 0)) := by
  unfold decC; rw [if_neg h, if_neg h1, if_neg h2, if_neg h3, if_pos h4]
/-- What Decode returns. -/
def DecP (b : Bs) (w : World) (e : Ending) (w' : World) : Prop :=
  ∃ v, e = .returned (.tuple #[v, .int .i64 (decC b)]) ∧ SeesR w' w'.heap.size v 2 (decT b).length (tagS (decT b)) ∧ Below w.heap.size w w'
theorem dec_nil {b : Bs} {c : Int} {w w' : World} {e : Ending} (h : decC b = c) (hc : c ≠ 0) (he : e = .returned (.tuple #[.slice none 0 0, .int .i64 c])) (hb : Below w.heap.size w w') : DecP b w e w' := by
  refine ⟨.slice none 0 0, by rw [h]; exact he, ?_, hb⟩
  rw [dec_bad h hc]
  exact SeesR.nil _ _ _
end Go.Proofs.YtkefbjpdpcmpnaaGreat

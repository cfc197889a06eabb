/- What a law leans on beyond the base: contracts, plain functions, walks. Conditions: those of each theorem. -/
import Derived.Test.YtgehkgjllhkhoaaGreatJDecB
set_option linter.unusedVariables false
set_option linter.unusedSimpArgs false
namespace Go.Proofs.YtgehkgjllhkhoaaGreat
open Go Go.RowKit
set_option linter.unusedVariables false
def DecOut (b : Bs) (ls : List Lk) (f s : Int) (c : Int) : Prop :=
 ∃ o, FieldsR b o ∧ match o with
  | none => ls = [] ∧ f = 0 ∧ s = 0 ∧ c = 1
  | some l => ∃ d, DecL l d ∧ match d with
    | none => ls = [] ∧ f = 0 ∧ s = 0 ∧ c = 3
    | some p => ls = p.1 ∧ f = (p.2.1 : Int) ∧ s = (p.2.2 : Int) ∧ c = 0
theorem DecOut.uniq {b : Bs} {ls ls' : List Lk} {f f' s s' c c' : Int} (h : DecOut b ls f s c) (h' : DecOut b ls' f' s' c') : ls = ls' ∧ f = f' ∧ s = s' ∧ c = c' := by
 obtain ⟨o, h1, h2⟩ := h
 obtain ⟨o', h1', h2'⟩ := h'
 obtain rfl := h1.uniq h1'
 cases o with
 | none =>
   obtain ⟨rfl, rfl, rfl, rfl⟩ := h2
   obtain ⟨rfl, rfl, rfl, rfl⟩ := h2'
   exact ⟨rfl, rfl, rfl, rfl⟩
 | some l =>
   obtain ⟨d, h3, h4⟩ := h2
   obtain ⟨d', h3', h4'⟩ := h2'
   obtain rfl := h3.uniq h3'
   cases d with
   | none =>
     obtain ⟨rfl, rfl, rfl, rfl⟩ := h4
     obtain ⟨rfl, rfl, rfl, rfl⟩ := h4'
     exact ⟨rfl, rfl, rfl, rfl⟩
   | some p =>
     obtain ⟨rfl, rfl, rfl, rfl⟩ := h4
     obtain ⟨rfl, rfl, rfl, rfl⟩ := h4'
     exact ⟨rfl, rfl, rfl, rfl⟩
theorem decOut_of {b : Bs} {w w' : World} {e : Ending} (h : FDecP b w e w') : ∃ ls f s c v, DecOut b ls f s c ∧ e = .returned (.tuple #[.agg #[v, .int .i64 f, .int .i64 s], .int .i64 c]) ∧ SeesR w' w'.heap.size v 3 ls.length (linkS ls) ∧ Below w.heap.size w w' := by
 obtain ⟨o, h1, h2, hb⟩ := h
 cases o with
 | none => exact ⟨[], 0, 0, 1, .slice none 0 0, ⟨none, h1, rfl, rfl, rfl, rfl⟩, h2, SeesR.nil _ _ _, hb⟩
 | some l =>
   obtain ⟨d, h3, h4⟩ := h2
   cases d with
   | none => exact ⟨[], 0, 0, 3, .slice none 0 0, ⟨some l, h1, none, h3, rfl, rfl, rfl, rfl⟩, h4, SeesR.nil _ _ _, hb⟩
   | some p =>
     obtain ⟨v, h5, h6⟩ := h4
     exact ⟨p.1, _, _, 0, v, ⟨some l, h1, some p, h3, rfl, rfl, rfl, rfl⟩, h5, h6, hb⟩
theorem decOut_enc {ls : List Lk} {f s : Int} (hc : fencC ls f s = 0) (hl : ls.length ≤ 8 → (wrF (encF ls 0 0)).length ≤ 65535) : DecOut (fencB ls f s) ls f s 0 := by
 have h8 : ls.length ≤ 8 ∧ (0 ≤ f ∧ f ≤ 255 ∧ 0 ≤ s ∧ s ≤ 255) := by
  unfold fencC at hc
  split at hc
  · omega
  · split at hc
    · rename_i g1 g2; exact ⟨by omega, g2⟩
    · omega
 rw [fencB, if_pos hc]
 refine ⟨some (encF ls f.toNat s.toNat), ⟨enc_okF (by rw [encF_total _ _ _ 0 0]; exact hl h8.1), rfl⟩, some (ls, f.toNat, s.toNat), fdec_enc h8.1 (by omega) (by omega), rfl, ?_, ?_, rfl⟩
 · show f = ((f.toNat : Nat) : Int); omega
 · show s = ((s.toNat : Nat) : Int); omega
theorem fencB_len {ls : List Lk} {f s : Int} (hl : ls.length ≤ 8 → (wrF (encF ls 0 0)).length ≤ 65535) : (fencB ls f s).length ≤ 65535 := by
 unfold fencB
 split
 · rename_i hc
   rw [encF_total _ _ _ 0 0]
   refine hl ?_
   unfold fencC at hc
   split at hc
   · omega
   · omega
 · simp
end Go.Proofs.YtgehkgjllhkhoaaGreat

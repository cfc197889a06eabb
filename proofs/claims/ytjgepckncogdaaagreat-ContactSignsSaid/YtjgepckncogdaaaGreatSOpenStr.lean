/- What a law leans on beyond the base: contracts, plain functions, walks. Conditions: those of each theorem. -/
import Derived.Test.YtjgepckncogdaaaGreatSC1
import Derived.Test.YtjgepckncogdaaaGreatTCtP
set_option linter.unusedVariables false
set_option linter.unusedSimpArgs false
namespace Go.Proofs.YtjgepckncogdaaaGreat
open Go Go.ChangeShapes Go.WideShapes Go.ChangeAt Go.RowKit
section
variable {H : Type} {enc : TypeId × Value → H} {w : World} {base : Nat} {r : Reach} {b0 : Nat} {P : Program} {spare : Nat → Bool} {held : Bool} {v : Value} {d : DataW H} {ps : List MemPlace}
theorem open_str {t : TypeId} (ht : P.underlying t = some .string) (hval : Value.okWide P w r b0 t v) (h : DataW.Trod enc P w base spare held t v d ps) : ∃ l : Bs, v = .string (strB l) ∧ d = .lit (.string l) ∧ ps = [] ∧ l.length ≤ maxLen := by
 obtain ⟨s, rfl⟩ := okWide_string ht hval
 obtain ⟨fuel, hf⟩ := h
 obtain ⟨s', hs, hx, hl⟩ := DataW.trod_string ht hf
 simp [Value.cells] at hs
 subst hs
 simp only [Prod.mk.injEq] at hx
 refine ⟨s.data.toList, ?_, hx.1, hx.2, ?_⟩
 · cases s; simp [strB]
 · rw [Array.length_toList]; exact hl
end
end Go.Proofs.YtjgepckncogdaaaGreat

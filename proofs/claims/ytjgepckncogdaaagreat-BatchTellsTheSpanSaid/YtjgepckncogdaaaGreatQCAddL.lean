/- What a law leans on beyond the base: contracts, plain functions, walks. Conditions: those of each theorem. -/
import Derived.Test.YtjgepckncogdaaaGreatQC1
set_option linter.unusedVariables false
set_option linter.unusedSimpArgs false
namespace Go.Proofs.YtjgepckncogdaaaGreat
open Go Go.RowKit
set_option linter.unusedVariables false
section
variable {w w' : World} {base n size : Nat} {T : TypeId} {v : Value} {ss : List Spec}
theorem OwnR.poke {G j : Nat} {T' : TypeId} {v' : Value} {xs : List Value} (h : OwnR w base T v size n ss) (hG : G < base) (hbx : Box w G T' xs) (hno : NoByte xs) : OwnR (w.setCell ⟨G, j, none⟩ v') base T v size n ss := by
 have hlt := h.lt
 obtain ⟨h0, vs, h1, h2⟩ := h
 have hne : v.ownBlock ≠ some G := fun e => by have := (hlt G e).1; omega
 refine ⟨h0, vs, h1.kept (setCell_grown w G j v') (.inr hne), fun k s hk => ?_⟩
 obtain ⟨u, e1, e2⟩ := h2 k s hk
 refine ⟨u, e1, ?_⟩
 cases s with
 | val x => exact e2
 | byt l => exact ⟨SeesB.more (e2.1.stay fun hl k hk p hp => World.cell?_setCell_other w _ p v' (fun e => e2.1.notin hbx hno hl (by rw [hk, ← hp, ← e]))) (by simp [World.setCell]), e2.2⟩
theorem before {w7 X w8 : World} (h : Below w7.heap.size w7 X) (h8 : Below X.heap.size X w8) : w7.heap.size ≤ X.heap.size := h.size
end
end Go.Proofs.YtjgepckncogdaaaGreat

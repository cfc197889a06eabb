/- What a law leans on beyond the base: contracts, plain functions, walks. Conditions: those of each theorem. -/
import Derived.Test.YtjgepckncogdaaaGreatQNonce
import Derived.Test.YtjgepckncogdaaaGreatQCVerL
import Derived.Test.YtjgepckncogdaaaGreatQKSignF
import Derived.Test.YtjgepckncogdaaaGreatQCAddL
import Derived.Test.YtjgepckncogdaaaGreatQHeldJ
set_option linter.unusedVariables false
set_option linter.unusedSimpArgs false
namespace Go.Proofs.YtjgepckncogdaaaGreat
open Go Go.RowKit
set_option linter.unusedVariables false
set_option linter.unusedSimpArgs false
attribute [local go_sem ↓] Go.wp_at_zero Go.wp_at_succ
theorem sees_s3 {W : World} {g : Nat} {T : TypeId} {a b c u : Value} {l : Bs} (h : Box W g T [a, b, c]) (n : NoByte [a, b, c]) (x y z : Value) (hs : SeesB W W.heap.size u l) : SeesB (((W.setCell ⟨g, 0, none⟩ x).setCell ⟨g, 1, none⟩ y).setCell ⟨g, 2, none⟩ z) (((W.setCell ⟨g, 0, none⟩ x).setCell ⟨g, 1, none⟩ y).setCell ⟨g, 2, none⟩ z).heap.size u l := by
 have hz : (((W.setCell ⟨g, 0, none⟩ x).setCell ⟨g, 1, none⟩ y).setCell ⟨g, 2, none⟩ z).heap.size = W.heap.size := by simp [World.setCell]
 rw [hz]
 exact hs.over (Nat.le_refl _) h n (ggo (ggo (setCell_grown W g 0 x) (setCell_grown _ g 1 y)) (setCell_grown _ g 2 z))
def HonK (ls : List LinkG) (k : Nat) (lo hi : Int) : Prop :=
 ∃ (sd sd2 : Bs) (m : Int), sd.length = 32 ∧ sd2.length = 32 ∧ 0 ≤ m ∧ m < 2 ∧ (linkT ls k).1 = pubG sd 1 ∧ (linkT ls k).2.1.length = 32 ∧
  dansR sd2 0 0 (pubG sd2 0) (-1099511627776) 1099511627776 (sigG sd 1 m.toNat (tGrant ++ pubG sd2 0 ++ spanB (-1099511627776) 1099511627776)) [nextG (ls.take k) (linkT ls k).2.1] lo hi =
   (((sd2, 0, 1), (pubG sd2 0, -1099511627776, 1099511627776, sigG sd 1 m.toNat (tGrant ++ pubG sd2 0 ++ spanB (-1099511627776) 1099511627776))), [(linkT ls k).2.2], 0)
theorem HonK.last {ls : List LinkG} {pk bl y sd sd2 : Bs} {m lo hi : Int} {k : Nat} (hk : ls.length = k) (h1 : sd.length = 32) (h2 : sd2.length = 32) (h3 : 0 ≤ m) (h4 : m < 2) (h5 : pk = pubG sd 1) (h6 : bl.length = 32)
 (h7 : dansR sd2 0 0 (pubG sd2 0) (-1099511627776) 1099511627776 (sigG sd 1 m.toNat (tGrant ++ pubG sd2 0 ++ spanB (-1099511627776) 1099511627776)) [nextG ls bl] lo hi =
  (((sd2, 0, 1), (pubG sd2 0, -1099511627776, 1099511627776, sigG sd 1 m.toNat (tGrant ++ pubG sd2 0 ++ spanB (-1099511627776) 1099511627776))), [y], 0)) : HonK (ls ++ [(pk, bl, y)]) k lo hi := by
 subst hk
 have e1 : linkT (ls ++ [(pk, bl, y)]) ls.length = (pk, bl, y) := by
  unfold linkT
  rw [List.getD_eq_getElem?_getD, List.getElem?_append_right (Nat.le_refl _), Nat.sub_self]; rfl
 have e2 : (ls ++ [(pk, bl, y)]).take ls.length = ls := by rw [List.take_append_of_le_length (Nat.le_refl _), List.take_length]
 unfold HonK
 rw [e1, e2]
 exact ⟨sd, sd2, m, h1, h2, h3, h4, h5, h6, h7⟩
end Go.Proofs.YtjgepckncogdaaaGreat

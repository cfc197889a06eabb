/- What a law leans on beyond the base: contracts, plain functions, walks. Conditions: those of each theorem. -/
import Derived.Test.YtjgepckncogdaaaGreatQCVerL
import Derived.Test.YtjgepckncogdaaaGreatQOwnRF
set_option linter.unusedVariables false
set_option linter.unusedSimpArgs false
namespace Go.Proofs.YtjgepckncogdaaaGreat
open Go Go.RowKit
set_option linter.unusedVariables false
theorem SeesR.cut {w : World} {B size n c a b : Nat} {A : Option Addr} {ss : List Spec} (h : SeesR w B (.slice A n c) size n ss) (hab : a ≤ b) (hb : b ≤ n) :
 SeesR w B (.slice (cutA A c a size) (b - a) (c - a)) size (b - a) ((ss.drop (a * size)).take ((b - a) * size)) := by
 obtain ⟨h0, vs, hs, hv⟩ := h
 have hm : (b - a) * size + a * size ≤ n * size := by
  rw [← Nat.add_mul]; exact Nat.mul_le_mul_right _ (by omega)
 refine ⟨by rw [List.length_take, List.length_drop, h0]; omega, _, hs.cut hab hb, fun k s hk => ?_⟩
 have hkl : k < (b - a) * size := by
  have := (List.getElem?_eq_some_iff.1 hk).1
  rw [List.length_take] at this; omega
 rw [List.getElem?_take, if_pos hkl, List.getElem?_drop] at hk ⊢
 exact hv _ s hk
section
variable {w W : World} {g n c base size : Nat} {T : TypeId} {v : Value} {ss : List Spec}
theorem OwnRF.at_ (h : OwnRF w base T v size n ss) (h0 : 0 < n) : ∃ g c, v = .slice (some ⟨g, 0, none⟩) n c ∧ base ≤ g ∧ g < w.heap.size ∧ n ≤ c ∧ c ≤ maxLen := by
 have hlt := h.own.lt
 obtain ⟨_, vs, h1, _⟩ := h
 rcases h1.2 with ⟨_, hz⟩ | ⟨g, cap, cur, rfl, hb, hg, hc1, hc2, _⟩
 · omega
 · exact ⟨g, cap, rfl, hb, (hlt g rfl).2, hc1, hc2⟩
theorem elt_grown {u : Value} {s : Spec} (h : EltS w v u s) (hg : w.grownBy W v.ownBlock) : EltS W v u s := by
 cases s with
 | val x => exact h
 | byt l => exact ⟨Elt.grown h hg, h.2⟩
theorem OwnRF.put {u : Value} {s : Spec} {j : Nat} (h : OwnRF w base T (.slice (some ⟨g, 0, none⟩) n c) size n ss) (hj : j < n * size) (he : EltS w (.slice (some ⟨g, 0, none⟩) n c) u s) (hf : From base u) :
 OwnRF (w.setCell ⟨g, j, none⟩ u) base T (.slice (some ⟨g, 0, none⟩) n c) size n (ss.set j s) := by
 obtain ⟨h0, vs, h1, h2⟩ := h
 have hg := setCell_grown w g j u
 rcases h1.2 with ⟨e, _⟩ | ⟨g', cap, cur, e, hb, hh, hc1, hc2, hcs, htk⟩
 · cases e
 · injection e with e1 _ e3
   injection e1 with e1
   injection e1 with e1
   subst e1 e3
   have hB : Box w g T cur.toList := hh
   have hB' := hB.set j u
   have hvl : vs.length = n * size := h1.1
   refine ⟨by rw [List.length_set, h0], vs.set j u, ⟨by rw [List.length_set, hvl], .inr ⟨g, c, (cur.toList.set j u).toArray, rfl, hb, hB', hc1, hc2, by simp [hcs], ?_⟩⟩, fun k t hk => ?_⟩
   · rw [← htk]
     simp [List.take_set]
   · by_cases hkj : k = j
     · subst hkj
       rw [List.getElem?_set_self (by omega)] at hk ⊢
       cases hk
       exact ⟨u, rfl, elt_grown he hg, hf⟩
     · rw [List.getElem?_set_ne (fun e => hkj e.symm)] at hk ⊢
       obtain ⟨y, e1, e2, e3⟩ := h2 k t hk
       exact ⟨y, e1, elt_grown e2 hg, e3⟩
theorem OwnRF.frozen (h : OwnRF w base T (.slice (some ⟨g, 0, none⟩) n c) size n ss) (j : Nat) : w.frozen? ⟨g, j, none⟩ = false := by
 obtain ⟨_, vs, h1, _⟩ := h
 rcases h1.2 with ⟨e, _⟩ | ⟨g', cap, cur, e, _, hh, _⟩
 · cases e
 · injection e with e1 _ e3
   injection e1 with e1
   injection e1 with e1
   subst e1
   have hB : Box w g T cur.toList := hh
   exact hB.frozen j
theorem OwnRF.cell {j : Nat} {s : Spec} (h : OwnRF w base T (.slice (some ⟨g, 0, none⟩) n c) size n ss) (h0 : 0 < n) (hj : ss[j]? = some s) : ∃ u, w.cell? ⟨g, j, none⟩ = some u ∧ EltS w (.slice (some ⟨g, 0, none⟩) n c) u s ∧ From base u := by
 obtain ⟨_, vs, h1, h2⟩ := h
 obtain ⟨u, e1, e2, e3⟩ := h2 j s hj
 obtain ⟨b, o, e4, hb, hcell⟩ := (Sees.of_own h1).at_ h0
 injection e4 with e5
 injection e5 with e6 e7
 subst e6 e7
 have := hcell j u e1
 rw [Nat.zero_add] at this
 exact ⟨u, this, e2, e3⟩
end
def LkS (w : World) (v : Value) (W : World) : Prop :=
 ∃ ls : List LinkG, SeesR W W.heap.size v 3 ls.length (linkS ls) ∧ ls.length ≤ 8 ∧ (∀ t ∈ ls, t.1.length ≤ 2048 ∧ t.2.1.length ≤ 2048 ∧ t.2.2.length ≤ 2048) ∧ Below w.heap.size w W
theorem LkS.drew {w W : World} {v : Value} (h : LkS w v W) : LkS w v W.drew := by
 obtain ⟨ls, h1, h2, h3, h4⟩ := h
 exact ⟨ls, (h1.below (bdrew W)).more (bdrew W).size, h2, h3, bgo h4 (bdrew W)⟩
end Go.Proofs.YtjgepckncogdaaaGreat

/- What a law leans on beyond the base: contracts, plain functions, walks. Conditions: those of each theorem. -/
import Derived.Test.YtjgepckncogdaaaGreatQC1
set_option linter.unusedVariables false
set_option linter.unusedSimpArgs false
namespace Go.Proofs.YtjgepckncogdaaaGreat
open Go Go.RowKit
set_option linter.unusedVariables false
def OwnRF (w : World) (base : Nat) (T : TypeId) (v : Value) (size n : Nat) (ss : List Spec) : Prop :=
 ss.length = n * size ∧ ∃ vs : List Value, w.ownsRow base T size v n vs ∧ ∀ (k : Nat) (s : Spec), ss[k]? = some s → ∃ u, vs[k]? = some u ∧ EltS w v u s ∧ From base u
theorem OwnRF.own {w : World} {base size n : Nat} {T : TypeId} {v : Value} {ss : List Spec} (h : OwnRF w base T v size n ss) : OwnR w base T v size n ss := by
 obtain ⟨h0, vs, h1, h2⟩ := h
 exact ⟨h0, vs, h1, fun k s hk => by obtain ⟨u, e1, e2, -⟩ := h2 k s hk; exact ⟨u, e1, e2⟩⟩
theorem OwnRF.nil (w : World) (base : Nat) (T : TypeId) (size : Nat) : OwnRF w base T (.slice none 0 0) size 0 [] := ⟨by simp, [], World.ownsRow_nil w base T size, fun k s hk => by simp at hk⟩
theorem OwnRF.below {w w' : World} {base size n : Nat} {T : TypeId} {v : Value} {ss : List Spec} (h : OwnRF w base T v size n ss) (hb : Below w.heap.size w w') : OwnRF w' base T v size n ss := by
 obtain ⟨h0, vs, h1, h2⟩ := h
 exact ⟨h0, vs, own_below h1 hb, fun k s hk => by obtain ⟨u, e1, e2, e3⟩ := h2 k s hk; exact ⟨u, e1, e2.below hb, e3⟩⟩
theorem wp_appRF {o : Oper} {a : Act} {w : World} {K : Act → World → Prop} {Q : Exit → Act → World → Prop} (s x : Operand) (T E : TypeId) (hT : Tryz.prog.underlying T = some (.slice E))
 (ho : o.op = .call { callee := .builtin .append, args := #[s, x], argTypes := #[T, T] }) (i : TypeInfo) (z : Value) (size bytes : Nat) (hi : Tryz.prog.info? E = some i) (hz : i.zero = some z)
 (hsz : i.size = size) (hby : i.bytes = bytes) (hzs : z.cells.size = size) (h0 : 0 < size) (hby2 : bytes ≤ 1024)
 (base : Nat) (v : Value) (n : Nat) (ss : List Spec) (hs : a.eval s = v) (hown : OwnRF w base E v size n ss) (B : Nat) (u : Value) (m : Nat) (vs : List Value) (ts : List Spec) (hx : a.eval x = u) (hr : Sees w B u size m vs)
 (htl : ts.length = m * size) (hel : ∀ (k : Nat) (t : Spec), ts[k]? = some t → ∃ y, vs[k]? = some y ∧ EltS w v y t ∧ From base y)
 (hlen : n + m ≤ 1048576) (hbase : base ≤ w.heap.size)
 (h : ∀ v' w', OwnRF w' base E v' size (n + m) (ss ++ ts) → Below base w w' → w.grownBy w' v.ownBlock → K (a.put o.dst v') w') : o.wp Tryz.prog a w K Q := by
 have hown' := OwnRF.own hown
 obtain ⟨hl0, xs, h1, h2⟩ := hown
 have h1c : ∀ y ∈ vs, y.oneCell' = true := by
  intro y hy
  obtain ⟨k, hk⟩ := List.mem_iff_getElem?.1 hy
  have hkl : k < ts.length := by
   have := (List.getElem?_eq_some_iff.1 hk).1
   rw [hr.1] at this; omega
  obtain ⟨y', e1, e2⟩ := hel k _ (List.getElem?_eq_getElem hkl)
  rw [hk] at e1
  cases e1
  exact e2.1.fit.one
 refine wp_append_sees s x T ho base E i z size bytes hT hi hz hsz hby hzs h0 v n xs hs h1 B u m vs hx hr h1c (by unfold maxLen; omega) (Nat.le_trans (Nat.mul_le_mul hlen hby2) (by omega)) hbase ?_
 intro v' w' g1 g2 g3
 refine h v' w' ⟨by rw [List.length_append, hl0, htl, Nat.add_mul], xs ++ vs, g1, fun k t hk => ?_⟩ (below_ownR hown' g2 hbase) g2
 have hl1 : xs.length = ss.length := by rw [h1.1, hl0]
 have hst : ∀ {y : Value} {t : Spec}, EltS w v y t → EltS w' v' y t := fun {y t} hy => by
  cases t with
  | val x => exact hy
  | byt l => exact ⟨hy.grown g2, fun hm k hk => by
   rcases g3 with e | e
   · rw [e]; exact hy.2 hm k hk
   · rw [e]; intro e2; cases e2; exact absurd (hy.1.blk hm _ hk) (by omega)⟩
 by_cases hkl : k < ss.length
 · rw [List.getElem?_append_left hkl] at hk
   obtain ⟨y, e1, e2⟩ := h2 k t hk
   exact ⟨y, by rw [List.getElem?_append_left (by omega)]; exact e1, hst e2.1, e2.2⟩
 · rw [List.getElem?_append_right (by omega)] at hk
   obtain ⟨y, e1, e2⟩ := hel (k - ss.length) t hk
   exact ⟨y, by rw [List.getElem?_append_right (by omega), hl1]; exact e1, hst e2.1, e2.2⟩
end Go.Proofs.YtjgepckncogdaaaGreat

/- Contract of signer.Sign: a signature with the next one-time key. Conditions: a valid signer that is not used up, a message of at most 65535 bytes. Contract of sectimeref09.Sign: a signature with the next one-time key. Conditions: a valid signer that is not used up, a message of at most 65535 bytes. -/
import Derived.Test.YtdfnandhdgbgeaaTower9
import Derived.Deep.DeepCutAuto
namespace Go.Proofs.Ytdfnandhdgbgeaa
open Go.RowKit
set_option linter.unusedVariables false
attribute [local go_sem ↓] Go.wp_at_zero Go.wp_at_succ
def SignOk (seed : Bs) (h i : Nat) (m : Bs) (w : World) (e : Ending) (w' : World) : Prop :=
  ∃ v v2, e = .returned (.tuple #[.agg #[v, .int .i64 (h : Int), .int .i64 ((i + 1 : Nat) : Int)], v2, .int .i64 0]) ∧ SeesB w' w'.heap.size v seed ∧ SeesB w' w'.heap.size v2 (sigG seed h i m) ∧ Below w.heap.size w w'
def SignBad (c : Int) (w : World) (e : Ending) (w' : World) : Prop :=
  e = .returned (.tuple #[.agg #[.slice none 0 0, .int .i64 0, .int .i64 0], .slice none 0 0, .int .i64 c]) ∧ Below w.heap.size w w'
theorem validI_mk (seed : Bs) (h i : Nat) (hl : seed.length = 32) (hh : h ≤ 6) (hi : i ≤ 2 ^ h) : validI seed (h : Int) (i : Int) = true := by
  have : (i : Int) ≤ ((2 ^ h : Nat) : Int) := by omega
  simp [validI, hl] at this ⊢
  omega
/-- No cell of this block is a byte. -/
def NoByte (xs : List Value) : Prop := ∀ x ∈ xs, ∀ n, x ≠ .int .u8 n
theorem SeesB.notin {w : World} {B G : Nat} {T : TypeId} {u : Value} {l : Bs} {xs : List Value} (h : SeesB w B u l) (hbx : Box w G T xs) (hno : NoByte xs) (hl : l ≠ []) : u.ownBlock ≠ some G := by
  intro e
  obtain ⟨A, c, rfl, -, -⟩ := h.mk_
  obtain ⟨b, o, rfl, -, hc⟩ := h.at_ (List.length_pos_iff.2 hl)
  cases e
  have h0 := hc 0 (List.length_pos_iff.2 hl)
  rw [hbx.cell] at h0
  exact hno _ (List.mem_of_getElem? h0) _ rfl
theorem setCell_grown (w : World) (G j : Nat) (v : Value) : w.grownBy (w.setCell ⟨G, j, none⟩ v) (some G) := ⟨rfl, rfl, rfl, by simp [World.setCell], fun k hk hne => Below.heap_setCell w ⟨G, j, none⟩ v k (fun e => hne (by rw [e]))⟩
theorem OwnL.poke {w : World} {base G j : Nat} {T : TypeId} {v v' : Value} {ls : List Bs} {xs : List Value} (h : OwnL w base v ls) (hG : G < base) (hbx : Box w G T xs) (hno : NoByte xs) : OwnL (w.setCell ⟨G, j, none⟩ v') base v ls := by
  have hlt := h.lt
  obtain ⟨vs, h1, h2⟩ := h
  have hne : v.ownBlock ≠ some G := fun e => by have := (hlt G e).1; omega
  refine ⟨vs, h1.kept (setCell_grown w G j v') (.inr hne), fun k hk => ?_⟩
  obtain ⟨u, e1, e2⟩ := h2 k hk
  refine ⟨u, e1, SeesB.more (e2.1.stay fun hl k hk p hp => World.cell?_setCell_other w _ p v' (fun e => ?_)) (by simp [World.setCell]), e2.2⟩
  exact e2.1.notin hbx hno hl (by rw [hk, ← hp, ← e])
theorem SeesB.poke {w : World} {B G j : Nat} {T : TypeId} {u v' : Value} {l : Bs} {xs : List Value} (h : SeesB w B u l) (hbx : Box w G T xs) (hno : NoByte xs) : SeesB (w.setCell ⟨G, j, none⟩ v') B u l :=
  h.stay fun hl k hk p hp => World.cell?_setCell_other w _ p v' (fun e => h.notin hbx hno hl (by rw [hk, ← hp, ← e]))
theorem Box.other {w : World} {g G j : Nat} {T : TypeId} {v : Value} {xs : List Value} (h : Box w g T xs) (hne : g ≠ G) : Box (w.setCell ⟨G, j, none⟩ v) g T xs := (Below.heap_setCell w ⟨G, j, none⟩ v g hne).trans h
theorem noByte4 (h i : Int) (a b : Value) (ha : ∀ n, a ≠ .int .u8 n) (hb : ∀ n, b ≠ .int .u8 n) : NoByte [.int .i64 h, .int .i64 i, a, b] := by
  intro x hx n e
  simp only [List.mem_cons, List.not_mem_nil, or_false] at hx
  rcases hx with rfl | rfl | rfl | rfl
  · cases e
  · cases e
  · exact ha n e
  · exact hb n e
theorem cell_set3 (W : World) (q : Nat) (p : Addr) (hne : p.block ≠ q) (a b c : Value) : (((W.setCell ⟨q, 0, none⟩ a).setCell ⟨q, 1, none⟩ b).setCell ⟨q, 2, none⟩ c).cell? p = W.cell? p := by
  rw [World.cell?_setCell_other _ _ _ _ (fun e => hne (by rw [← e])), World.cell?_setCell_other _ _ _ _ (fun e => hne (by rw [← e])), World.cell?_setCell_other _ _ _ _ (fun e => hne (by rw [← e]))]
end Go.Proofs.Ytdfnandhdgbgeaa
namespace Go.Proofs.Ytdfnandhdgbgeaa
open Go.RowKit
set_option linter.unusedVariables false
attribute [local go_sem ↓] Go.wp_at_zero Go.wp_at_succ
end Go.Proofs.Ytdfnandhdgbgeaa

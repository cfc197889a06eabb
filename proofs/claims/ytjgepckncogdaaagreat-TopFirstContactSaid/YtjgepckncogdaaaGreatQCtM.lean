/- What a law leans on beyond the base: contracts, plain functions, walks. Conditions: those of each theorem. -/
import Derived.Test.YtjgepckncogdaaaGreatQCtN
set_option linter.unusedVariables false
set_option linter.unusedSimpArgs false
namespace Go.Proofs.YtjgepckncogdaaaGreat
open Go Go.RowKit
set_option linter.unusedVariables false
def markW (V : World) (g k : Nat) : World := V.freeze ⟨g, k, none⟩ 1
theorem mark_run (V : World) (g n c : Nat) (xs : List Value) (hV : Box V g 5 xs) :
 (convert 25 25 (.slice (some ⟨g, 0, none⟩) n c)).run Tryz.prog V = .ok (.slice (some ⟨g, 0, none⟩) n c) (markW V g xs.length) := by
 have hsh : V.shape? g = some (5, xs.length) := by
  unfold World.shape?
  have : V.heap[g]? = some (.cells xs.toArray 5) := hV
  rw [this]; simp
 simp [convert, run_underlying Tryz.underlying25, run_underlying Tryz.underlying5, markStringish, hsh, markW]
theorem mark_heap (V : World) (g k : Nat) : (markW V g k).heap = V.heap.modify g fun | .cells c elem (lo, hi) => .cells c elem (if lo == hi then (k, k + 1) else (min lo k, max hi (k + 1))) | o => o := by
 unfold markW World.freeze
 rw [if_neg (by decide)]
 rfl
theorem mark_other (V : World) (g k j : Nat) (h : j ≠ g) : (markW V g k).heap[j]? = V.heap[j]? := by
 rw [mark_heap, Array.getElem?_modify, if_neg (fun e => h e.symm)]
theorem mark_size (V : World) (g k : Nat) : (markW V g k).heap.size = V.heap.size := by
 rw [mark_heap, Array.size_modify]
theorem mark_cell (V : World) (g k : Nat) (p : Addr) : (markW V g k).cell? p = V.cell? p := by
 unfold World.cell?
 by_cases h : p.block = g
 · rw [mark_heap, Array.getElem?_modify, if_pos h.symm]
   cases hV : V.heap[p.block]? with
   | none => rfl
   | some o => cases o <;> rfl
 · rw [mark_other V g k _ h]
theorem mark_rest (V : World) (g k : Nat) : (markW V g k).os = V.os ∧ (markW V g k).tape = V.tape ∧ (markW V g k).output = V.output := by
 unfold markW World.freeze
 rw [if_neg (by decide)]
 exact ⟨rfl, rfl, rfl⟩
theorem mark_below {B : Nat} {w V : World} (h : Below B w V) (g k : Nat) (hg : B ≤ g) : Below B w (markW V g k) := by
 obtain ⟨r1, r2, r3⟩ := mark_rest V g k
 exact ⟨r1.trans h.os, r2.trans h.tape, r3.trans h.output, by rw [mark_size]; exact h.size, fun j hj => (mark_other V g k j (by omega)).trans (h.block j hj)⟩
theorem SeesB.mark {V : World} {B : Nat} {u : Value} {l : Bs} (h : SeesB V B u l) (g k : Nat) : SeesB (markW V g k) B u l := h.stay fun _ _ _ p _ => mark_cell V g k p
theorem seesB_mark {V : World} {u : Value} {l : Bs} (h : SeesB V V.heap.size u l) (g k : Nat) : SeesB (markW V g k) (markW V g k).heap.size u l := by
 rw [mark_size]; exact h.mark g k
theorem str_run (n : Bs) (hn : n.length ≤ 1048576) : ∃ (cp : World → Nat) (nx : World → World), ∀ W : World,
 (convert 9 25 (.string (strB n))).run Tryz.prog W = .ok (.slice (some ⟨W.heap.size, 0, none⟩) n.length (cp W)) (nx W) ∧ SeesB (nx W) (nx W).heap.size (.slice (some ⟨W.heap.size, 0, none⟩) n.length (cp W)) n ∧ Below W.heap.size W (nx W) := by
 refine ⟨fun W => grownCap W n.length 0 5, fun W => W.drew.alloc (.cells (bytesRow (strB n) (grownCap W n.length 0 5)) 5 ((bytesRow (strB n) (grownCap W n.length 0 5)).size, (bytesRow (strB n) (grownCap W n.length 0 5)).size + 1)), fun W => ⟨run_bytes_of_string W 9 25 5 (strB n) Tryz.underlying9 Tryz.underlying25 Tryz.underlying5, ?_, bgo (bdrew W) (balloc _ _)⟩⟩
 refine ⟨by rw [vb_len, Nat.mul_one], _, _, rfl, grownCap_ge W n.length 0 5, grownCap_le_maxLen W n.length 0 5 (by unfold maxLen; omega), fun _ => ⟨W.heap.size, 0, rfl, by rw [World.size_alloc]; exact Nat.lt_succ_self _, fun k u hk => ?_⟩⟩
 have hkl : k < n.length := by
  have := (List.getElem?_eq_some_iff.1 hk).1
  rwa [vb_len] at this
 have hb := bytesRow_at (strB n) (grownCap W n.length 0 5) k hkl
 rw [← hk, Nat.zero_add]
 have h9 := World.cell?_alloc_mark W.drew (bytesRow (strB n) (grownCap W n.length 0 5)) 5 ((bytesRow (strB n) (grownCap W n.length 0 5)).size, (bytesRow (strB n) (grownCap W n.length 0 5)).size + 1) k
 refine (show _ = _ from h9).trans ?_
 rw [hb]
 simp [vb, strB]
 rw [List.getElem?_eq_getElem hkl]
 rfl
def certL : List Value := vb tCert
theorem tcert_sees (V : World) (g : Nat) (hV : Box V g 5 certL) : SeesB V V.heap.size (.slice (some ⟨g, 0, none⟩) 12 12) tCert :=
 ⟨by rw [vb_len, Nat.mul_one], _, _, rfl, Nat.le_refl _, by unfold maxLen; omega, fun _ => ⟨g, 0, rfl, hV.lt, fun k u hk => by rw [Nat.zero_add]; exact (hV.cell k).trans hk⟩⟩
end Go.Proofs.YtjgepckncogdaaaGreat

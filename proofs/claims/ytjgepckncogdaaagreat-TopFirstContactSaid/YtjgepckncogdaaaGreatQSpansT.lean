/- What a law leans on beyond the base: contracts, plain functions, walks. Conditions: those of each theorem. -/
import Derived.Test.YtjgepckncogdaaaGreatQTape
import Derived.Test.YtjgepckncogdaaaGreatQCVerL
set_option linter.unusedVariables false
set_option linter.unusedSimpArgs false
namespace Go.Proofs.YtjgepckncogdaaaGreat
open Go Go.RowKit
set_option linter.unusedVariables false
set_option linter.unusedSimpArgs false
attribute [local go_sem ↓] Go.wp_at_zero Go.wp_at_succ
theorem TapeAt.row {w w' : World} {g k : Nat} {r : Option Nat} {u : Value} {l : List Int} (h : TapeAt w g u l k) (hg : w.grownBy w' r) (hne : ∀ j, r = some j → g < j) : TapeAt w' g u l k := by
 obtain ⟨h1, h2, h3⟩ := h
 refine ⟨(hg.block g h1.lt (fun e => by have := hne g e.symm; omega)).trans h1, Sees.below h2 ⟨hg.os, hg.tape, hg.output, hg.size, fun k hk => hg.block k (by have := h1.lt; omega) (fun e => by have := hne k e.symm; omega)⟩, h3⟩
theorem row_tape {w w' : World} {g base size n : Nat} {T : TypeId} {v : Value} {xs : List Value} (h : w.ownsRow base T size v n xs) (hg : w.grownBy w' (some g)) (hb : g < base) : w'.ownsRow base T size v n xs :=
 h.kept hg (.inr fun e => by have := (h.lt g e).1; omega)
theorem tnew_any (u : Value) (l : List Int) (w : World) (h : SeesT w w.heap.size u l) :
 Calls Tryz.prog 34 #[u] w fun e w' => e = .returned (.pointer (some ⟨w.heap.size, 0, none⟩)) ∧ TapeAt w' w.heap.size u l 0 ∧ Below w.heap.size w w' ∧ w.heap.size < w'.heap.size := by
 obtain ⟨A, c, rfl, -, -⟩ := h.mk_
 have hal := balloc w (.cells #[.slice A l.length c, .int .i64 0] 150)
 have hx := Lib.hid (Box.new w 150 [.slice A l.length c, .int .i64 0])
 have h2 := Lib.hid (Sees.below h hal)
 replace hal := Lib.hid hal
 clear h
 go_enter Tryz.func34, Tryz.ntmps34
 go_wp2_with fail
 go_returns
 exact ⟨rfl, ⟨hx.out, h2.out, Nat.zero_le _⟩, hal.out, hx.out.lt⟩
theorem row_mono {w : World} {base base' size n : Nat} {T : TypeId} {v : Value} {xs : List Value} (h : w.ownsRow base T size v n xs) (hb : base' ≤ base) : w.ownsRow base' T size v n xs := by
 refine ⟨h.1, ?_⟩
 rcases h.2 with h | ⟨g, cap, cur, e1, e2, e3⟩
 · exact .inl h
 · exact .inr ⟨g, cap, cur, e1, by omega, e3⟩
end Go.Proofs.YtjgepckncogdaaaGreat

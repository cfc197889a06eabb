/- A piece of my texts, cut out by slice.py: what a claim leans on. -/
import Derived.Test.YtcoehlmeegoofaaGreatFB
import Derived.Laws.BitsAllLaws
import Derived.Laws.Bits64b
import Derived.RowKit
import Derived.WalkKit
import Derived.Test.YtcoehlmeegoofaaGreatRows
import Derived.Below
import Derived.Laws.OwnMore
import Derived.Laws.Slices
import Derived.Laws.CopyOwn
import Derived.Deep.Draws
import Derived.Lib.Hide
import Derived.Maps.AppendAt
import Derived.Deep.QuietTactic
import Derived.WalkLawsBesides
import Derived.Handy
import Derived.Outline
import Derived.BigQuiet
import Derived.Deep.OwnRows
import Derived.Deep.RegionHeld3
import Derived.Deep.DrawnRows
import Derived.Shelf.Bytes.SlSmallAll
import Derived.Laws.MathBits
import Derived.Lib.AppendZeros
import Derived.OwnWalk
import Derived.Lib.BufferMore
import Derived.Lib.Strings
import Derived.Lib.Slices
import Derived.Lib.Small
import Derived.Lib.Walk
import Derived.Lib.BitFns
import Derived.Lib.Overlaps
import Derived.Deep.DeepCutAuto
import Derived.RangeFuncBox
import Derived.RangeFuncLeaves
import Derived.Shelf.Abstract
import Derived.OwnWalkIn
import Derived.TacticsInMore
import Derived.LoopNIn
import Derived.LoopIn
import Derived.Sort.QuietIn
import Derived.Lib.SmallJoins
import Derived.ChangeSame
import Derived.ProofKit
import Derived.OpenShut
import Derived.Shelf.GgClosure.StringsIndexFuncTop
import Derived.Laws.RangeString
import Derived.Laws.RangeAny
import Derived.Lib.AppendStr
import Derived.Lib.SlBytesConst
namespace Go.Proofs.YtcoehlmeegoofaaGreat
section
open Go.RowKit
set_option linter.unusedVariables false
attribute [local go_sem ↓] Go.wp_at_zero Go.wp_at_succ
theorem ggo {a b c : World} {g : Nat} (h1 : a.grownBy b (some g)) (h2 : b.grownBy c (some g)) : a.grownBy c (some g) :=
  ⟨h2.os.trans h1.os, h2.tape.trans h1.tape, h2.output.trans h1.output, Nat.le_trans h1.size h2.size, fun k hk hne => (h2.block k (Nat.lt_of_lt_of_le hk h1.size) hne).trans (h1.block k hk hne)⟩
end
section
open Go.RowKit
set_option linter.unusedVariables false
attribute [local go_sem ↓] Go.wp_at_zero Go.wp_at_succ
/-- No cell of this block is a byte. -/
def NoByte (xs : List Value) : Prop := ∀ x ∈ xs, ∀ n, x ≠ .int .u8 n
theorem SeesB.notin {w : World} {B G : Nat} {T : TypeId} {u : Value} {l : Bs} {xs : List Value} (h : SeesB w B u l) (hbx : Box w G T xs) (hno : NoByte xs) (hl : l ≠ []) : u.ownBlock ≠ some G := by
  intro e
  obtain ⟨A, c, rfl, -, -⟩ := h.mk_
  obtain ⟨b, o, rfl, -, hc⟩ := h.at_ (List.length_pos_iff.2 hl)
  cases e
  have h0 := hc 0 (List.length_pos_iff.2 hl)
  rw [hbx.cell] at h0
  exact hno _ (List.mem_of_getElem? h0) _ rfl
theorem setCell_grown (w : World) (G j : Nat) (v : Value) : w.grownBy (w.setCell ⟨G, j, none⟩ v) (some G) := ⟨rfl, rfl, rfl, by simp [World.setCell], fun k hk hne => Below.heap_setCell w ⟨G, j, none⟩ v k (fun e => hne (by rw [e]))⟩
theorem SeesB.poke {w : World} {B G j : Nat} {T : TypeId} {u v' : Value} {l : Bs} {xs : List Value} (h : SeesB w B u l) (hbx : Box w G T xs) (hno : NoByte xs) : SeesB (w.setCell ⟨G, j, none⟩ v') B u l :=
  h.stay fun hl k hk p hp => World.cell?_setCell_other w _ p v' (fun e => h.notin hbx hno hl (by rw [hk, ← hp, ← e]))
end
section
open Go.RowKit
set_option linter.unusedVariables false
attribute [local go_sem ↓] Go.wp_at_zero Go.wp_at_succ
theorem SeesB.over {w w' : World} {B g : Nat} {T : TypeId} {u : Value} {l : Bs} {xs : List Value} (h : SeesB w B u l) (hB : B ≤ w.heap.size) (hbx : Box w g T xs) (hno : NoByte xs) (hg : w.grownBy w' (some g)) : SeesB w' B u l :=
  h.stay fun hl k hk p hp => World.cell?_of_block (hg.block p.block (by rw [hp]; exact Nat.lt_of_lt_of_le (h.blk hl k hk) hB) (fun e => h.notin hbx hno hl (by rw [hk, ← hp, e])))
end
section
open Go Go.RowKit
set_option linter.unusedVariables false
set_option linter.unusedSimpArgs false
attribute [local go_sem ↓] Go.wp_at_zero Go.wp_at_succ
theorem below_set3 {w W : World} {g : Nat} (h : Below w.heap.size w W) (hg : w.heap.size ≤ g) (x y z : Value) : Below w.heap.size w (((W.setCell ⟨g, 0, none⟩ x).setCell ⟨g, 1, none⟩ y).setCell ⟨g, 2, none⟩ z) :=
  ((h.setCell (p := ⟨g, 0, none⟩) hg _).setCell (p := ⟨g, 1, none⟩) hg _).setCell (p := ⟨g, 2, none⟩) hg _
end
section
open Go.RowKit
set_option linter.unusedVariables false
set_option linter.unusedSimpArgs false
attribute [local go_sem ↓] Go.wp_at_zero Go.wp_at_succ
/-- A list of lists, read behind writes to a block where it does not lie. -/
theorem SeesL.over {w w' : World} {B g : Nat} {T : TypeId} {u : Value} {ls : List Bs} {xs : List Value} (h : SeesL w B u ls) (hB : B ≤ w.heap.size) (hu : ∀ k, u.ownBlock = some k → k ≠ g) (hbx : Box w g T xs) (hno : NoByte xs) (hg : w.grownBy w' (some g)) : SeesL w' B u ls := by
  obtain ⟨vs, ⟨h0, A, c, hv, h1, h2, h3⟩, hel⟩ := h
  refine ⟨vs, ⟨h0, A, c, hv, h1, h2, fun hn => ?_⟩, fun k hk => ?_⟩
  · obtain ⟨b, o, e, hb, hc⟩ := h3 hn
    refine ⟨b, o, e, hb, fun j x hj => (World.cell?_of_block (hg.block b (by omega) (fun e2 => ?_))).trans (hc j x hj)⟩
    injection e2 with e2
    exact hu b (by rw [hv, e]; rfl) e2
  · obtain ⟨v, g1, g2⟩ := hel k hk
    exact ⟨v, g1, g2.over hB hbx hno hg⟩
end
section
open Go.RowKit
set_option linter.unusedVariables false
attribute [local go_sem ↓] Go.wp_at_zero Go.wp_at_succ
theorem box_set2 {W : World} {g : Nat} {T : TypeId} {a b : Value} (h : Box W g T [a, b]) (x y : Value) : Box ((W.setCell ⟨g, 0, none⟩ x).setCell ⟨g, 1, none⟩ y) g T [x, y] := by
  have y := (h.set 0 x).set 1 y
  simpa only [List.set_cons_zero, List.set_cons_succ] using y
theorem below_set2 {w W : World} {g : Nat} (h : Below w.heap.size w W) (hg : w.heap.size ≤ g) (x y : Value) : Below w.heap.size w ((W.setCell ⟨g, 0, none⟩ x).setCell ⟨g, 1, none⟩ y) :=
  (h.setCell (p := ⟨g, 0, none⟩) hg _).setCell (p := ⟨g, 1, none⟩) hg _
end
section
open Go.RowKit
set_option linter.unusedVariables false
theorem boxT2 {W : World} {g : Nat} {T : TypeId} {a b : Value} (x : Box W g T [a, b]) : W.cell? ⟨g, 0, none⟩ = some a ∧ W.cell? ⟨g, 1, none⟩ = some b := ⟨x.cell 0, x.cell 1⟩
end
section
open Go Go.RowKit
set_option linter.unusedVariables false
theorem sees_box1 {W : World} {g : Nat} {v : Value} {l : Bs} (x : Box W g 25 [v]) (s : SeesB W W.heap.size v l) : SeesL W W.heap.size (.slice (some ⟨g, 0, none⟩) 1 1) [l] := by
  refine ⟨[v], ⟨rfl, _, 1, rfl, Nat.le_refl _, by unfold maxLen; omega, fun _ => ⟨g, 0, rfl, x.lt, fun j u hj => ?_⟩⟩, fun k hk => ?_⟩
  · rw [Nat.zero_add, x.cell]
    exact hj
  · have hk0 : k = 0 := by simp at hk; omega
    subst hk0
    exact ⟨v, rfl, s⟩
theorem rjone {W : World} {g : Nat} {v : Value} {l : Bs} (x : Box W g 25 [v]) (s : SeesB W W.heap.size v l) (hl : l.length ≤ 1048576) : Calls Tryz.prog 21 #[.slice (some ⟨g, 0, none⟩) 1 1] W (Gives l W) := by
  have h := rjoin_any _ _ [l] W (sees_box1 x s) (Nat.le_refl _) (by simp; omega)
  rw [show [l].flatten = l by simp] at h
  exact h
end
section
open Go Go.RowKit
set_option linter.unusedVariables false
set_option linter.unusedSimpArgs false
attribute [local go_sem ↓] Go.wp_at_zero Go.wp_at_succ
/-- A link of new bytes. -/
def LinkP (t : LinkG) (w : World) (e : Ending) (w' : World) : Prop :=
  ∃ v1 v2 v3, e = .returned (.agg #[v1, v2, v3]) ∧ SeesB w' w'.heap.size v1 t.1 ∧ SeesB w' w'.heap.size v2 t.2.1 ∧ SeesB w' w'.heap.size v3 t.2.2 ∧ From w.heap.size v1 ∧ From w.heap.size v2 ∧ From w.heap.size v3 ∧ Below w.heap.size w w'
theorem boxn {w : World} {g : Nat} {T : TypeId} {xs : List Value} (h : g = w.heap.size) : Box (w.alloc (.cells xs.toArray T)) g T xs := by subst h; exact Box.new w T xs
theorem noB_nils : NoByte [Value.slice none 0 0, .slice none 0 0, .slice none 0 0] := by
  intro x hx n e
  simp only [List.mem_cons, List.not_mem_nil, or_false] at hx
  rcases hx with rfl | rfl | rfl <;> cases e
theorem link_sees {W : World} {g : Nat} {T : TypeId} {u : Value} {l : Bs} (h : Box W g T [.slice none 0 0, .slice none 0 0, .slice none 0 0]) (x y z : Value) (hs : SeesB W W.heap.size u l) : SeesB (((W.setCell ⟨g, 0, none⟩ x).setCell ⟨g, 1, none⟩ y).setCell ⟨g, 2, none⟩ z) (((W.setCell ⟨g, 0, none⟩ x).setCell ⟨g, 1, none⟩ y).setCell ⟨g, 2, none⟩ z).heap.size u l := by
  have hz : (((W.setCell ⟨g, 0, none⟩ x).setCell ⟨g, 1, none⟩ y).setCell ⟨g, 2, none⟩ z).heap.size = W.heap.size := by simp [World.setCell]
  rw [hz]
  exact hs.over (Nat.le_refl _) h noB_nils (ggo (ggo (setCell_grown W g 0 x) (setCell_grown _ g 1 y)) (setCell_grown _ g 2 z))
theorem box_lset3 {W : World} {g : Nat} {T : TypeId} {a b c : Value} (h : Box W g T [a, b, c]) (x y z : Value) : Box (((W.setCell ⟨g, 0, none⟩ x).setCell ⟨g, 1, none⟩ y).setCell ⟨g, 2, none⟩ z) g T [x, y, z] := by
  have k := ((h.set 0 x).set 1 y).set 2 z
  simpa only [List.set_cons_zero, List.set_cons_succ] using k
theorem link_done {t : LinkG} {w W : World} {g : Nat} {T : TypeId} {v1 v2 v3 : Value} (x : Box W g T [.slice none 0 0, .slice none 0 0, .slice none 0 0]) (hg : w.heap.size ≤ g) (s1 : SeesB W W.heap.size v1 t.1) (s2 : SeesB W W.heap.size v2 t.2.1) (s3 : SeesB W W.heap.size v3 t.2.2) (f1 : From w.heap.size v1) (f2 : From w.heap.size v2) (f3 : From w.heap.size v3) (hb : Below w.heap.size w W) :
    LinkP t w (.returned (.agg #[v1, v2, v3])) (((W.setCell ⟨g, 0, none⟩ v1).setCell ⟨g, 1, none⟩ v2).setCell ⟨g, 2, none⟩ v3) :=
  ⟨v1, v2, v3, rfl, link_sees x _ _ _ s1, link_sees x _ _ _ s2, link_sees x _ _ _ s3, f1, f2, f3, ((hb.setCell (p := ⟨g, 0, none⟩) hg _).setCell (p := ⟨g, 1, none⟩) hg _).setCell (p := ⟨g, 2, none⟩) hg _⟩
end
section
open Go Go.RowKit
set_option linter.unusedVariables false
set_option linter.unusedSimpArgs false
attribute [local go_sem ↓] Go.wp_at_zero Go.wp_at_succ
theorem link_infoC : (Tryz.prog.info? 41).map (fun i => (i.zero, i.size, i.bytes)) = some (some (.agg #[.slice none 0 0, .slice none 0 0, .slice none 0 0]), 3, 72) := by kernel_rfl
end
section
open Go Go.RowKit
set_option linter.unusedVariables false
theorem noB_two (a b : Int) : NoByte [Value.int .i64 a, .int .i64 b] := by
  intro x hx n e
  simp only [List.mem_cons, List.not_mem_nil, or_false] at hx
  rcases hx with rfl | rfl <;> cases e
section
variable {w w' : World} {base n size : Nat} {T : TypeId} {v : Value} {ss : List Spec}
theorem OwnR.poke {G j : Nat} {T' : TypeId} {v' : Value} {xs : List Value} (h : OwnR w base T v size n ss) (hG : G < base) (hbx : Box w G T' xs) (hno : NoByte xs) : OwnR (w.setCell ⟨G, j, none⟩ v') base T v size n ss := by
  have hlt := h.lt
  obtain ⟨h0, vs, h1, h2⟩ := h
  have hne : v.ownBlock ≠ some G := fun e => by have := (hlt G e).1; omega
  refine ⟨h0, vs, h1.kept (setCell_grown w G j v') (.inr hne), fun k s hk => ?_⟩
  obtain ⟨u, e1, e2⟩ := h2 k s hk
  refine ⟨u, e1, ?_⟩
  cases s with
  | val x => exact e2
  | byt l => exact ⟨SeesB.more (e2.1.stay fun hl k hk p hp => World.cell?_setCell_other w _ p v' (fun e => e2.1.notin hbx hno hl (by rw [hk, ← hp, ← e]))) (by simp [World.setCell]), e2.2⟩
theorem OwnR.set2 {G : Nat} {T' : TypeId} {a b x y : Int} (h : OwnR w base T v size n ss) (hG : G < base) (hbx : Box w G T' [.int .i64 a, .int .i64 b]) : OwnR ((w.setCell ⟨G, 0, none⟩ (.int .i64 x)).setCell ⟨G, 1, none⟩ (.int .i64 y)) base T v size n ss := by
  have h1 := hbx.set 0 (.int .i64 x)
  simp only [List.set_cons_zero] at h1
  exact (h.poke hG hbx (noB_two a b)).poke hG h1 (noB_two x b)
end
end
end Go.Proofs.YtcoehlmeegoofaaGreat

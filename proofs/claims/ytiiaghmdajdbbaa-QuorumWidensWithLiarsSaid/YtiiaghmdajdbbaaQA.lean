/- Spans in memory; contracts of interval.Holds, sectimeref11.Holds, Inside. No conditions. -/
import Derived.Test.YtiiaghmdajdbbaaQP
import Derived.Test.YtiiaghmdajdbbaaTicks
import Derived.Deep.DrawnRows
import Derived.Deep.RegionHeld3
import Derived.Deep.CutBlock
import Derived.Deep.DeepCutAuto
import Derived.Deep.QuietTactic
import Derived.BigQuiet
namespace Go.Proofs.Ytiiaghmdajdbbaa
open Go.RowKit
set_option linter.unusedVariables false
set_option linter.unusedSimpArgs false
attribute [local go_sem ↓] Go.wp_at_zero Go.wp_at_succ
theorem bgo {a b c : World} (h1 : Below a.heap.size a b) (h2 : Below b.heap.size b c) : Below a.heap.size a c := h1.trans (h2.mono h1.size)
theorem balloc (w : World) (o : Obj) : Below w.heap.size w (w.alloc o) := (Below.refl _ _).alloc (Nat.le_refl _) _
theorem bdrew (w : World) : Below w.heap.size w w.drew := (Below.refl _ _).drew
/-- Block g holds exactly these cells. -/
def Box (w : World) (g : Nat) (T : TypeId) (xs : List Value) : Prop := w.heap[g]? = some (.cells xs.toArray T)
theorem Box.new (w : World) (T : TypeId) (xs : List Value) : Box (w.alloc (.cells xs.toArray T)) w.heap.size T xs := heap_alloc_new w _
theorem Box.lt {w : World} {g : Nat} {T : TypeId} {xs : List Value} (h : Box w g T xs) : g < w.heap.size := (Array.getElem?_eq_some_iff.1 h).1
theorem Box.below {w w' : World} {g : Nat} {T : TypeId} {xs : List Value} (h : Box w g T xs) (hb : Below w.heap.size w w') : Box w' g T xs := (hb.block g h.lt).trans h
theorem Box.cell {w : World} {g : Nat} {T : TypeId} {xs : List Value} (h : Box w g T xs) (j : Nat) : w.cell? ⟨g, j, none⟩ = xs[j]? := block_cell h j
theorem Box.set {w : World} {g : Nat} {T : TypeId} {xs : List Value} (h : Box w g T xs) (j : Nat) (v : Value) : Box (w.setCell ⟨g, j, none⟩ v) g T (xs.set j v) := by
  have := set_block w g j v h
  simpa [Box] using this
theorem Box.frozen {w : World} {g : Nat} {T : TypeId} {xs : List Value} (h : Box w g T xs) (j : Nat) : w.frozen? ⟨g, j, none⟩ = false := frozen_of_row w g j _ _ h
theorem Box.other {w : World} {g G j : Nat} {T : TypeId} {v : Value} {xs : List Value} (h : Box w g T xs) (hne : g ≠ G) : Box (w.setCell ⟨G, j, none⟩ v) g T xs := (Below.heap_setCell w ⟨G, j, none⟩ v g hne).trans h
theorem boxT2 {W : World} {g : Nat} {T : TypeId} {a b : Value} (x : Box W g T [a, b]) : W.cell? ⟨g, 0, none⟩ = some a ∧ W.cell? ⟨g, 1, none⟩ = some b := ⟨x.cell 0, x.cell 1⟩
theorem box2_cells {W : World} {g : Nat} {T : TypeId} {a b : Value} (h : Box W g T [a, b]) : W.cell? ⟨g, 0, none⟩ = some a ∧ W.cell? ⟨g, 1, none⟩ = some b ∧ W.frozen? ⟨g, 0, none⟩ = false ∧ W.frozen? ⟨g, 1, none⟩ = false := ⟨h.cell 0, h.cell 1, h.frozen 0, h.frozen 1⟩
theorem box_set2 {W : World} {g : Nat} {T : TypeId} {a b : Value} (h : Box W g T [a, b]) (x y : Value) : Box ((W.setCell ⟨g, 0, none⟩ x).setCell ⟨g, 1, none⟩ y) g T [x, y] := by
  have y := (h.set 0 x).set 1 y
  simpa only [List.set_cons_zero, List.set_cons_succ] using y
theorem below_set2 {w W : World} {g : Nat} (h : Below w.heap.size w W) (hg : w.heap.size ≤ g) (x y : Value) : Below w.heap.size w ((W.setCell ⟨g, 0, none⟩ x).setCell ⟨g, 1, none⟩ y) :=
  (h.setCell (p := ⟨g, 0, none⟩) hg _).setCell (p := ⟨g, 1, none⟩) hg _
theorem setCell_grown (w : World) (G j : Nat) (v : Value) : w.grownBy (w.setCell ⟨G, j, none⟩ v) (some G) := ⟨rfl, rfl, rfl, by simp [World.setCell], fun k hk hne => Below.heap_setCell w ⟨G, j, none⟩ v k (fun e => hne (by rw [e]))⟩
theorem ggo {a b c : World} {g : Nat} (h1 : a.grownBy b (some g)) (h2 : b.grownBy c (some g)) : a.grownBy c (some g) :=
  ⟨h2.os.trans h1.os, h2.tape.trans h1.tape, h2.output.trans h1.output, Nat.le_trans h1.size h2.size, fun k hk hne => (h2.block k (Nat.lt_of_lt_of_le hk h1.size) hne).trans (h1.block k hk hne)⟩
theorem rec_lit (W : World) (T : TypeId) (xs : List Value) : Sees (W.alloc (.cells xs.toArray T)) (W.heap.size + 1) (.slice (some ⟨W.heap.size, 0, none⟩) 1 1) xs.length 1 xs :=
  ⟨by omega, _, 1, rfl, Nat.le_refl _, by simp [maxLen], fun _ => ⟨W.heap.size, 0, rfl, by omega, fun j u hj => by have := (Box.new W T xs).cell j; rw [Nat.zero_add, this, hj]⟩⟩
def BoolPost (b : Bool) (w : World) (e : Ending) (w' : World) : Prop := e = .returned (.bool b) ∧ Below w.heap.size w w'
theorem span_info : (Try.prog.info? 28).map (fun i => (i.zero, i.size, i.bytes)) = some (some (.agg #[.int .i64 0, .int .i64 0]), 2, 16) := by kernel_rfl
theorem int_info : (Try.prog.info? 3).map (fun i => (i.zero, i.size, i.bytes)) = some (some (.int .i64 0), 1, 8) := by kernel_rfl
/-- The cells of a list of spans. -/
def spV (l : List Sp) : List Value := l.flatMap fun s => [.int .i64 s.1, .int .i64 s.2]
theorem spV_cons (s : Sp) (l : List Sp) : spV (s :: l) = .int .i64 s.1 :: .int .i64 s.2 :: spV l := rfl
theorem spV_append (a b : List Sp) : spV (a ++ b) = spV a ++ spV b := List.flatMap_append
theorem spV_len (l : List Sp) : (spV l).length = l.length * 2 := by
  induction l with
  | nil => rfl
  | cons s l ih => rw [spV_cons, List.length_cons, List.length_cons, ih, List.length_cons]; omega
theorem spV_get (l : List Sp) : ∀ (j : Nat) (s : Sp), l[j]? = some s → (spV l)[j * 2]? = some (.int .i64 s.1) ∧ (spV l)[j * 2 + 1]? = some (.int .i64 s.2) := by
  induction l with
  | nil => intro j s h; simp at h
  | cons a l ih =>
    intro j s h
    cases j with
    | zero => simp at h; subst h; exact ⟨rfl, rfl⟩
    | succ j =>
      rw [List.getElem?_cons_succ] at h
      have := ih j s h
      rw [spV_cons, show (j + 1) * 2 = j * 2 + 1 + 1 by omega, List.getElem?_cons_succ, List.getElem?_cons_succ, List.getElem?_cons_succ, List.getElem?_cons_succ]
      exact this
/-- The value shows these spans. -/
def SeesS (w : World) (B : Nat) (v : Value) (l : List Sp) : Prop := Sees w B v 2 l.length (spV l)
def OwnS (w : World) (base : Nat) (v : Value) (l : List Sp) : Prop := w.ownsRow base 28 2 v l.length (spV l)
theorem OwnS.sees {w : World} {base : Nat} {v : Value} {l : List Sp} (h : OwnS w base v l) : SeesS w w.heap.size v l := Sees.of_own h
theorem OwnS.below {w w' : World} {base : Nat} {v : Value} {l : List Sp} (h : OwnS w base v l) (hb : Below w.heap.size w w') : OwnS w' base v l := own_below h hb
section
variable {w w' : World} {B B' : Nat} {v : Value} {l : List Sp}
theorem SeesS.mk_ (h : SeesS w B v l) : ∃ A c, v = .slice A l.length c ∧ l.length ≤ c ∧ c ≤ maxLen := Sees.mk_ h
theorem SeesS.below (h : SeesS w B v l) (hb : Below B w w') : SeesS w' B v l := Sees.below h hb
theorem SeesS.more (h : SeesS w B v l) (hB : B ≤ B') : SeesS w B' v l := Sees.more h hB
theorem SeesS.at_ {A : Option Addr} {n c : Nat} (h : SeesS w B (.slice A n c) l) (hn : 0 < l.length) : ∃ b o, A = some ⟨b, o, none⟩ ∧ b < B ∧ ∀ j s, l[j]? = some s → w.cell? ⟨b, o + j * 2, none⟩ = some (.int .i64 s.1) ∧ w.cell? ⟨b, o + j * 2 + 1, none⟩ = some (.int .i64 s.2) := by
  obtain ⟨A', c', e, -, -⟩ := h.mk_
  injection e with e1 e2 e3
  subst e1 e2 e3
  obtain ⟨b, o, e, hb, hc⟩ := Sees.at_ h hn
  exact ⟨b, o, e, hb, fun j s hs => ⟨hc _ _ (spV_get l j s hs).1, by rw [Nat.add_assoc]; exact hc _ _ (spV_get l j s hs).2⟩⟩
end
theorem row_mono {w : World} {base base' size n : Nat} {T : TypeId} {v : Value} {xs : List Value} (h : w.ownsRow base T size v n xs) (hb : base' ≤ base) : w.ownsRow base' T size v n xs := by
  refine ⟨h.1, ?_⟩
  rcases h.2 with h | ⟨g, cap, cur, e1, e2, e3⟩
  · exact .inl h
  · exact .inr ⟨g, cap, cur, e1, by omega, e3⟩
/-- A span holds an instant. -/
def hdB (lo hi t : Int) : Bool := vS lo hi && (decide (lo ≤ t) && decide (t ≤ hi))
theorem hdB_hol {lo hi : Int} (h : vS lo hi = true) (t : Int) : hdB lo hi t = hol t (lo, hi) := by
  unfold hdB hol
  rw [h, Bool.eq_iff_iff]
  simp
set_option maxRecDepth 100000 in
theorem holds_any (lo hi t : Int) (w : World) :
    Calls Try.prog 46 #[.agg #[.int .i64 lo, .int .i64 hi], .int .i64 t] w (BoolPost (hdB lo hi t) w) := by
  unfold hdB
  have hva := Lib.hid (fun W => valid_any lo hi W)
  have hal := Lib.hid (balloc w (.cells #[.int .i64 lo, .int .i64 hi] 28))
  have x2 := Box.new w 28 [.int .i64 lo, .int .i64 hi]
  change Box (w.alloc (.cells #[.int .i64 lo, .int .i64 hi] 28)) _ _ _ at x2
  go_enter Try.func46, Try.ntmps46
  go_upto_region 1 with (fail)
  generalize w.alloc (.cells #[.int .i64 lo, .int .i64 hi] 28) = W0 at *
  generalize hgg : w.heap.size = g2 at x2 ⊢
  replace hgg := Lib.hid hgg
  have y0 : W0.cell? ⟨g2, 0, none⟩ = some (.int .i64 lo) := x2.cell 0
  have y1 : W0.cell? ⟨g2, 1, none⟩ = some (.int .i64 hi) := x2.cell 1
  go_wp2_with fail
  refine (hva.out _).mono ?_
  rintro e w1 ⟨rfl, hb1⟩
  replace x2 := x2.below hb1
  clear y0 y1
  have y0 : w1.cell? ⟨g2, 0, none⟩ = some (.int .i64 lo) := x2.cell 0
  have y1 : w1.cell? ⟨g2, 1, none⟩ = some (.int .i64 hi) := x2.cell 1
  have hbw := Lib.hid (bgo hal.out hb1)
  clear x2 hb1
  dsimp only
  cases hv : vS lo hi with
  | false =>
    replace hv := Lib.hid hv
    clear y0 y1
    go_wp2_with fail
    go_ret
    exact ⟨ret_bool (by rw [hv.out]; rfl), hbw.out⟩
  | true =>
    replace hv := Lib.hid hv
    by_cases h1 : lo ≤ t
    · by_cases h2 : t ≤ hi
      · go_wp2_with fail
        go_ret
        exact ⟨ret_bool (by rw [hv.out]; simp [h1, h2]), hbw.out⟩
      · go_wp2_with fail
        go_ret
        exact ⟨ret_bool (by rw [hv.out]; simp [h1, h2]), hbw.out⟩
    · go_wp2_with fail
      go_ret
      exact ⟨ret_bool (by rw [hv.out, decide_eq_false (show ¬ lo ≤ t by omega)]; rfl), hbw.out⟩
set_option maxRecDepth 100000 in
theorem rholds_any (lo hi t : Int) (w : World) :
    Calls Try.prog 24 #[.agg #[.int .i64 lo, .int .i64 hi], .int .i64 t] w (BoolPost (hdB lo hi t) w) := by
  unfold hdB
  have hva := Lib.hid (fun W => rvalid_any lo hi W)
  have hal := Lib.hid (balloc w (.cells #[.int .i64 lo, .int .i64 hi] 28))
  have x2 := Box.new w 28 [.int .i64 lo, .int .i64 hi]
  change Box (w.alloc (.cells #[.int .i64 lo, .int .i64 hi] 28)) _ _ _ at x2
  go_enter Try.func24, Try.ntmps24
  go_upto_region 1 with (fail)
  generalize w.alloc (.cells #[.int .i64 lo, .int .i64 hi] 28) = W0 at *
  generalize hgg : w.heap.size = g2 at x2 ⊢
  replace hgg := Lib.hid hgg
  have y0 : W0.cell? ⟨g2, 0, none⟩ = some (.int .i64 lo) := x2.cell 0
  have y1 : W0.cell? ⟨g2, 1, none⟩ = some (.int .i64 hi) := x2.cell 1
  go_wp2_with fail
  refine (hva.out _).mono ?_
  rintro e w1 ⟨rfl, hb1⟩
  replace x2 := x2.below hb1
  clear y0 y1
  have y0 : w1.cell? ⟨g2, 0, none⟩ = some (.int .i64 lo) := x2.cell 0
  have y1 : w1.cell? ⟨g2, 1, none⟩ = some (.int .i64 hi) := x2.cell 1
  have hbw := Lib.hid (bgo hal.out hb1)
  clear x2 hb1
  dsimp only
  cases hv : vS lo hi with
  | false =>
    replace hv := Lib.hid hv
    clear y0 y1
    go_wp2_with fail
    go_ret
    exact ⟨ret_bool (by rw [hv.out]; rfl), hbw.out⟩
  | true =>
    replace hv := Lib.hid hv
    by_cases h1 : lo ≤ t
    · by_cases h2 : t ≤ hi
      · go_wp2_with fail
        go_ret
        exact ⟨ret_bool (by rw [hv.out]; simp [h1, h2]), hbw.out⟩
      · go_wp2_with fail
        go_ret
        exact ⟨ret_bool (by rw [hv.out]; simp [h1, h2]), hbw.out⟩
    · go_wp2_with fail
      go_ret
      exact ⟨ret_bool (by rw [hv.out, decide_eq_false (show ¬ lo ≤ t by omega)]; rfl), hbw.out⟩
end Go.Proofs.Ytiiaghmdajdbbaa

/- Contracts of batch.Span and Unspan, and of their reference: the bytes of a span, and back. Conditions: the bounds are 64-bit numbers. -/
import Derived.Test.YtjlobdediebpcaaJoin
import Derived.Test.YtjlobdediebpcaaTicks
namespace Go.Proofs.Ytjlobdediebpcaa
open Go.RowKit
set_option linter.unusedVariables false
attribute [local go_sem ↓] Go.wp_at_zero Go.wp_at_succ
/-- Values and lists of bytes, each seen. -/
def SeesAll (w : World) (B : Nat) : List Value → List Bs → Prop
  | [], [] => True
  | v :: vs, l :: ls => SeesB w B v l ∧ SeesAll w B vs ls
  | _, _ => False
theorem SeesAll.at_ {w : World} {B : Nat} : ∀ {vs : List Value} {ls : List Bs}, SeesAll w B vs ls → vs.length = ls.length ∧ ∀ k, k < ls.length → ∃ v, vs[k]? = some v ∧ SeesB w B v (ls.getD k [])
  | [], [], _ => ⟨rfl, fun k hk => absurd hk (by simp)⟩
  | v :: vs, l :: ls, h => by
    obtain ⟨h1, h2⟩ := h.2.at_
    refine ⟨by simp [h1], fun k hk => ?_⟩
    cases k with
    | zero => exact ⟨v, rfl, h.1⟩
    | succ k =>
      obtain ⟨u, hu, hs⟩ := h2 k (by simpa using hk)
      exact ⟨u, by simpa using hu, by simpa using hs⟩
theorem SeesAll.alloc {w : World} {B : Nat} (o : Obj) (hB : B ≤ w.heap.size) : ∀ {vs : List Value} {ls : List Bs}, SeesAll w B vs ls → SeesAll (w.alloc o) B vs ls
  | [], [], _ => trivial
  | v :: vs, l :: ls, h => ⟨Sees.alloc h.1 hB o, h.2.alloc o hB⟩
theorem SeesB.moreA {w : World} {B B' : Nat} (hB : B ≤ B') : ∀ {vs : List Value} {ls : List Bs}, SeesAll w B vs ls → SeesAll w B' vs ls
  | [], [], _ => trivial
  | v :: vs, l :: ls, h => ⟨h.1.more hB, SeesB.moreA hB h.2⟩
theorem SeesAll.len_le {w : World} {B : Nat} {vs : List Value} {ls : List Bs} (h : SeesAll w B vs ls) : vs.length = ls.length := h.at_.1
/-- A literal of lists. -/
theorem seesL_lit (w : World) (T : TypeId) {vs : List Value} {ls : List Bs} (h : SeesAll w w.heap.size vs ls) (hm : vs.length ≤ maxLen) :
    SeesL (w.alloc (.cells vs.toArray T)) (w.alloc (.cells vs.toArray T)).heap.size (.slice (some ⟨w.heap.size, 0, none⟩) vs.length vs.length) ls := by
  obtain ⟨h1, h2⟩ := h.at_
  have h3 := (SeesB.moreA (B' := (w.alloc (.cells vs.toArray T)).heap.size) (by simp) (h.alloc (.cells vs.toArray T) (Nat.le_refl _))).at_.2
  refine ⟨vs, ⟨by rw [h1, Nat.mul_one], _, _, by rw [h1], by omega, by omega, fun _ => ⟨w.heap.size, 0, rfl, by simp, fun j u hu => ?_⟩⟩, h3⟩
  rw [Nat.zero_add, block_cell (heap_alloc_new w _)]
  exact hu
def u64 (x : Int) : Nat := (x % 18446744073709551616).toNat
theorem u64_lt (x : Int) : u64 x < 18446744073709551616 := by unfold u64; omega
theorem u64_int (x : Int) : x % 18446744073709551616 = (u64 x : Int) := by unfold u64; omega
def spanB (lo hi : Int) : Bs := putB 8 (u64 lo) ++ putB 8 (u64 hi)
def spanC (lo hi : Int) : Int := if vS lo hi then 0 else 3
def spanL (lo hi : Int) : Bs := if vS lo hi then spanB lo hi else []
def SpanPost (lo hi : Int) (w : World) (e : Ending) (w' : World) : Prop :=
  ∃ v, e = .returned (.tuple #[v, .int .i64 (spanC lo hi)]) ∧ OwnB w' w.heap.size v (spanL lo hi) ∧ Below w.heap.size w w'
theorem rput8_any (x : Int) (w : World) : Calls Try.prog 65 #[.int .u64 (x % 18446744073709551616), .int .i64 8] w (Gives (putB 8 (u64 x)) w) := by
  rw [u64_int]; exact rput_any (u64 x) 8 (by omega) (u64_lt x) w
theorem put8_any (x : Int) (w : World) : Calls Try.prog 49 #[.int .u64 (x % 18446744073709551616), .int .i64 8] w (Gives (putB 8 (u64 x)) w) := by
  rw [u64_int]; exact put_any (u64 x) 8 (by omega) (u64_lt x) w
set_option maxRecDepth 100000 in
theorem rspanbytes_any (lo hi : Int) (w : World) :
    Calls Try.prog 51 #[.int .i64 lo, .int .i64 hi] w (Gives (spanB lo hi) w) := by
  have p1 := putB_len 8 (u64 lo)
  have p2 := putB_len 8 (u64 hi)
  go_enter Try.func51, Try.ntmps51
  go_wp2_with (go_at_call 65; refine (rput8_any _ _).mono ?_; first | (have _h := hb1; clear _h; rintro e w2 ⟨v2, rfl, h2, hb2⟩; obtain ⟨A2, c2, rfl, -, -⟩ := h2.sees.mk_) | (rintro e w1 ⟨v1, rfl, h1, hb1⟩; obtain ⟨A1, c1, rfl, -, -⟩ := h1.sees.mk_))
  rw [p1] at h1
  rw [p2] at h2
  have hall : SeesAll w2 w2.heap.size [.slice A1 _ c1, .slice A2 _ c2] [putB 8 (u64 lo), putB 8 (u64 hi)] := ⟨(h1.below hb2).sees, h2.sees, trivial⟩
  have hl := seesL_lit w2 24 hall (by simp [maxLen])
  have hs : [putB 8 (u64 lo), putB 8 (u64 hi)].flatten.length ≤ 1099511627776 := by simp [p1, p2]
  refine (rjoin_any _ _ _ _ hl (Nat.le_refl _) hs).mono ?_
  rintro e w3 ⟨v3, rfl, h3, hb3⟩
  dsimp only
  go_wp2_with fail
  go_ret
  exact ⟨v3, rfl, by simpa [spanB] using h3.mono (by have := hb1.size; have := hb2.size; simp; omega), (hb1.trans (hb2.mono hb1.size)).trans (((Below.refl _ _).alloc (Nat.le_refl _) _).mono (Nat.le_trans hb1.size hb2.size)) |>.trans (hb3.mono (by have := hb1.size; have := hb2.size; simp; omega))⟩
theorem keep_two {W W' : World} {g : Nat} {x y : Value} (hb : Below W.heap.size W W') (h : W.cell? ⟨g, 0, none⟩ = some x ∧ W.cell? ⟨g, 1, none⟩ = some y ∧ g < W.heap.size) :
    W'.cell? ⟨g, 0, none⟩ = some x ∧ W'.cell? ⟨g, 1, none⟩ = some y ∧ g < W'.heap.size :=
  ⟨(hb.cell (p := ⟨g, 0, none⟩) h.2.2).trans h.1, (hb.cell (p := ⟨g, 1, none⟩) h.2.2).trans h.2.1, Nat.lt_of_lt_of_le h.2.2 hb.size⟩
theorem keep_two_alloc {W : World} {g : Nat} {x y : Value} {o : Obj} (h : W.cell? ⟨g, 0, none⟩ = some x ∧ W.cell? ⟨g, 1, none⟩ = some y ∧ g < W.heap.size) :
    (W.alloc o).cell? ⟨g, 0, none⟩ = some x ∧ (W.alloc o).cell? ⟨g, 1, none⟩ = some y ∧ g < (W.alloc o).heap.size := keep_two ((Below.refl _ _).alloc (Nat.le_refl _) o) h
theorem box_two (w : World) (x y : Value) (T : TypeId) : (w.alloc (.cells #[x, y] T)).cell? ⟨w.heap.size, 0, none⟩ = some x ∧ (w.alloc (.cells #[x, y] T)).cell? ⟨w.heap.size, 1, none⟩ = some y ∧ w.heap.size < (w.alloc (.cells #[x, y] T)).heap.size :=
  ⟨(cell_of_row _ _ 0 _ _ _ (heap_alloc_new w _)).trans rfl, (cell_of_row _ _ 1 _ _ _ (heap_alloc_new w _)).trans rfl, by simp⟩
set_option maxRecDepth 100000 in
theorem rspan_any (lo hi : Int) (w : World) : Calls Try.prog 13 #[.agg #[.int .i64 lo, .int .i64 hi]] w (SpanPost lo hi w) := by
  go_enter Try.func13, Try.ntmps13
  go_wp2_with fail
  have hk := box_two w (.int .i64 lo) (.int .i64 hi) 23
  have hbw := (Below.refl w.heap.size w).alloc (Nat.le_refl _) (.cells #[.int .i64 lo, .int .i64 hi] 23)
  generalize w.alloc (.cells #[.int .i64 lo, .int .i64 hi] 23) = W at hk hbw ⊢
  obtain ⟨k0, k1, k2⟩ := id hk
  by_cases hv : vS lo hi = true
  all_goals
    go_wp2_with (go_at_call 50; refine (rvalid_any lo hi _).mono ?_; rintro e W2 ⟨rfl, hb2⟩; obtain ⟨j0, j1, j2⟩ := keep_two hb2 hk)
  · refine (rspanbytes_any lo hi _).mono ?_
    rintro e W3 ⟨v3, rfl, h3, hb3⟩
    dsimp only
    go_wp2_with fail
    go_returns
    refine ⟨v3, by simp [spanC, hv], ?_, (hbw.trans (hb2.mono hbw.size)).trans (hb3.mono (Nat.le_trans hbw.size hb2.size))⟩
    rw [spanL, if_pos hv]
    exact h3.mono (Nat.le_trans hbw.size hb2.size)
  · go_returns
    exact ⟨.slice none 0 0, by simp [spanC, hv], by rw [spanL, if_neg hv]; exact World.ownsRow_nil _ _ _ _, hbw.trans (hb2.mono hbw.size)⟩
set_option maxRecDepth 100000 in
theorem span_any (lo hi : Int) (w : World) : Calls Try.prog 12 #[.agg #[.int .i64 lo, .int .i64 hi]] w (SpanPost lo hi w) := by
  have p1 := putB_len 8 (u64 lo)
  have p2 := putB_len 8 (u64 hi)
  go_enter Try.func12, Try.ntmps12
  go_wp2_with fail
  have hk := box_two w (.int .i64 lo) (.int .i64 hi) 23
  have hbw := (Below.refl w.heap.size w).alloc (Nat.le_refl _) (.cells #[.int .i64 lo, .int .i64 hi] 23)
  generalize w.alloc (.cells #[.int .i64 lo, .int .i64 hi] 23) = W at hk hbw ⊢
  obtain ⟨k0, k1, k2⟩ := id hk
  by_cases hv : vS lo hi = true
  all_goals
    go_wp2_with (go_at_call 47; refine (valid_any lo hi _).mono ?_; rintro e W2 ⟨rfl, hb2⟩; obtain ⟨j0, j1, j2⟩ := keep_two hb2 hk)
  · clear k0 k1 k2
    go_region_held3 (fun W' => W'.cell? ⟨w.heap.size, 0, none⟩ = some (.int .i64 lo) ∧ W'.cell? ⟨w.heap.size, 1, none⟩ = some (.int .i64 hi) ∧ w.heap.size < W'.heap.size)
      (first | (go_keep; done) | exact keep_two (by assumption) (by assumption) | exact keep_two_alloc (by assumption))
      (first | (go_at_call 48; rw [p1] at h1; rw [p2] at h2; refine (join_any _ _ _ _ (seesL_lit w2 24 (show SeesAll w2 w2.heap.size [.slice A1 8 c1, .slice A2 8 c2] [putB 8 (u64 lo), putB 8 (u64 hi)] from ⟨(h1.below hc2).sees, h2.sees, trivial⟩) (by simp [maxLen])) (Nat.le_refl _) (by simp [p1, p2])).mono ?_; rintro e w3 ⟨v3, rfl, h3, hb3⟩) | (go_at_call 49; refine (put8_any _ _).mono ?_; first | (have _h := hb1; clear _h; rintro e w2 ⟨v2, rfl, h2, hc2⟩; obtain ⟨A2, c2, rfl, -, -⟩ := h2.sees.mk_) | (rintro e w1 ⟨v1, rfl, h1, hb1⟩; obtain ⟨A1, c1, rfl, -, -⟩ := h1.sees.mk_)))
    go_wp2_with fail
    go_returns
    have hall := bgo (bgo (bgo (bgo (bgo (bgo hbw hb2) (bdrew _)) hb1) hc2) (balloc _ _)) hb3
    have hsz := (bgo (bgo (bgo (bgo (bgo hbw hb2) (bdrew _)) hb1) hc2) (balloc _ (.cells #[.slice A1 8 c1, .slice A2 8 c2] 24))).size
    refine ⟨v3, by simp [spanC, hv], ?_, hall⟩
    rw [spanL, if_pos hv]
    have := h3.mono hsz
    simpa [spanB] using this
  · go_returns
    exact ⟨.slice none 0 0, by simp [spanC, hv], by rw [spanL, if_neg hv]; exact World.ownsRow_nil _ _ _ _, hbw.trans (hb2.mono hbw.size)⟩
end Go.Proofs.Ytjlobdediebpcaa

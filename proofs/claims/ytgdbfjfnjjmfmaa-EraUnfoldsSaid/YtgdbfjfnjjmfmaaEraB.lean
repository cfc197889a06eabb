/- Contract of era.Near, for instants of at most 2^58 either way: the nearest one of four spans. -/
import Derived.Test.YtgdbfjfnjjmfmaaEraA
import Derived.Deep.RegionHeld3
import Derived.Deep.DrawnRows
namespace Go.Proofs.Ytgdbfjfnjjmfmaa
open Go.RowKit
attribute [local go_sem ↓] Go.wp_at_zero Go.wp_at_succ
theorem valid_true (lo hi : Int) (hv : vS lo hi = true) (w : World) :
    Calls Try.prog 16 #[.agg #[.int .i64 lo, .int .i64 hi]] w fun e w' => e = .returned (.bool true) ∧ Below w.heap.size w w' :=
  (valid_any lo hi w).mono fun _ _ h => by rw [hv] at h; exact h
theorem vS_k (k a : Int) (h0 : 0 ≤ a) (h1 : a < 18446744073709551616) (hk0 : -80 ≤ k) (hk1 : k ≤ 80) : vS (lo_ k a) (hi_ k a) = true := by
  unfold vS lo_ hi_; simp; omega
theorem valid_k (k a : Int) (h0 : 0 ≤ a) (h1 : a < 18446744073709551616) (hk0 : -80 ≤ k) (hk1 : k ≤ 80) (w : World) :
    Calls Try.prog 16 #[.agg #[.int .i64 (lo_ k a), .int .i64 (hi_ k a)]] w fun e w' => e = .returned (.bool true) ∧ Below w.heap.size w w' := valid_true _ _ (vS_k k a h0 h1 hk0 hk1) w
theorem dist_k (k a t : Int) (h0 : 0 ≤ a) (h1 : a < 18446744073709551616) (hk0 : -80 ≤ k) (hk1 : k ≤ 80) (ht0 : -288230376151711744 ≤ t) (ht1 : t ≤ 288230376151711744) (w : World) :
    Calls Try.prog 21 #[.agg #[.int .i64 (lo_ k a), .int .i64 (hi_ k a)], .int .i64 t] w fun e w' => e = .returned (.int .i64 (dist (lo_ k a) (hi_ k a) t)) ∧ Below w.heap.size w w' :=
  dist_any _ _ _ (by unfold lo_; omega) (by unfold lo_; omega) (by unfold hi_; omega) (by unfold hi_; omega) (by omega) (by omega) w
theorem keep4 {W w w' : World} {B : Nat} {a b c d : Addr} {va vb vc vd : Value} (hb : Below w.heap.size w w') (hW : Below B W w) (hB : B ≤ W.heap.size) (ha : a.block < B) (hb' : b.block < B) (hc : c.block < B) (hd : d.block < B)
    (ca : w.cell? a = some va) (cb : w.cell? b = some vb) (cc : w.cell? c = some vc) (cd : w.cell? d = some vd) : w'.cell? a = some va ∧ w'.cell? b = some vb ∧ w'.cell? c = some vc ∧ w'.cell? d = some vd ∧ Below B W w' := by
  have := hW.size
  exact ⟨(hb.cell (by omega)).trans ca, (hb.cell (by omega)).trans cb, (hb.cell (by omega)).trans cc, (hb.cell (by omega)).trans cd, hW.trans (hb.mono (by omega))⟩
theorem two_cells {w : World} {g : Nat} {a b : Value} {T : TypeId} (h : w.heap[g]? = some (.cells #[a, b] T)) : w.cell? ⟨g, 0, none⟩ = some a ∧ w.cell? ⟨g, 1, none⟩ = some b := by
  refine ⟨?_, ?_⟩
  · rw [cell_of_row w g 0 _ _ _ h]; rfl
  · rw [cell_of_row w g 1 _ _ _ h]; rfl
def nearRel (e t a : Int) (n : Nat) (K : Int) : Prop := e - 1 ≤ K ∧ K ≤ e + n - 1 ∧ ∀ j : Int, e - 1 ≤ j → j ≤ e + n - 1 → dist (lo_ K a) (hi_ K a) t ≤ dist (lo_ j a) (hi_ j a) t
theorem near_take {e t a : Int} {n : Nat} {K : Int} (h : nearRel e t a n K) (hd : dist (lo_ (e + n) a) (hi_ (e + n) a) t < dist (lo_ K a) (hi_ K a) t) : nearRel e t a (n + 1) (e + n) := by
  refine ⟨by omega, by omega, fun j h1 h2 => ?_⟩
  rcases Int.lt_or_le (e + n - 1) j with hj | hj
  · obtain rfl : j = e + n := by omega
    exact Int.le_refl _
  · have := h.2.2 j h1 hj; omega
theorem near_keep {e t a : Int} {n : Nat} {K : Int} (h : nearRel e t a n K) (hd : dist (lo_ K a) (hi_ K a) t ≤ dist (lo_ (e + n) a) (hi_ (e + n) a) t) : nearRel e t a (n + 1) K := by
  refine ⟨h.1, by have := h.2.1; omega, fun j h1 h2 => ?_⟩
  rcases Int.lt_or_le (e + n - 1) j with hj | hj
  · obtain rfl : j = e + n := by omega
    exact hd
  · exact h.2.2 j h1 hj
theorem set_block (w : World) (g o : Nat) (v : Value) {cs : Array Value} {T : TypeId} (h : w.heap[g]? = some (.cells cs T)) : (w.setCell ⟨g, o, none⟩ v).heap[g]? = some (.cells (cs.setIfInBounds o v) T) := by
  simp [World.setCell, Array.getElem?_modify, h]
theorem two_set {w : World} {g : Nat} {a b : Value} {T : TypeId} (h : w.heap[g]? = some (.cells #[a, b] T)) (x y : Value) :
    ((w.setCell ⟨g, 0, none⟩ x).setCell ⟨g, 1, none⟩ y).heap[g]? = some (.cells #[x, y] T) := by
  rw [set_block _ g 1 y (set_block w g 0 x h)]; rfl
theorem two_far {w : World} {g : Nat} {o : Obj} (h : w.heap[g]? = some o) {p q : Addr} (hp : g ≠ p.block) (hq : g ≠ q.block) (x y : Value) :
    ((w.setCell p x).setCell q y).heap[g]? = some o := by
  rw [Below.heap_setCell _ _ _ _ hq, Below.heap_setCell _ _ _ _ hp, h]
def NearPost (t a : Int) (w : World) (e : Ending) (w' : World) : Prop := ∃ K : Int, e = .returned (.tuple #[.agg #[.int .i64 (lo_ K a), .int .i64 (hi_ K a)], .int .i64 0]) ∧ nearRel ((t - a / 4096) / 4503599627370496) t a 3 K ∧ Below w.heap.size w w'
set_option maxRecDepth 100000 in
theorem near_ok (t a : Int) (h0 : 0 ≤ a) (h1 : a < 18446744073709551616) (ht0 : -288230376151711744 ≤ t) (ht1 : t ≤ 288230376151711744) (w : World) :
    Calls Try.prog 14 #[.int .i64 t, .int .u64 a] w (NearPost t a w) := by
  go_enter Try.func14, Try.ntmps14
  go_wp2_with (go_at_call 18; refine (down_any _ (by omega) (by omega) _).mono ?_; rintro e w' ⟨rfl, rfl⟩)
  unfold NearPost
  have hE0 : -66 ≤ (t - a / 4096) / 4503599627370496 := by omega
  have hE1 : (t - a / 4096) / 4503599627370496 ≤ 66 := by omega
  have hd : t - a / 4096 = t - a / 4096 := rfl
  generalize hEE : (t - a / 4096) / 4503599627370496 = E at hE0 hE1 ⊢
  have HE := Lib.hid hEE
  clear hd hEE
  refine (stamp_any _ _ (by omega) (by omega) (by omega) (by omega) _).mono ?_
  rintro e w1 ⟨rfl, hb1⟩
  have hz1 := hb1.size
  go_wp2_with (fail)
  have hres : w1.heap[w.heap.size]? = some (.cells #[.int .i64 0, .int .i64 0] 32) := (hb1.block _ (by simp)).trans (heap_alloc_new w _)
  have hbw1 : Below w.heap.size w w1 := ((Below.refl _ _).alloc (Nat.le_refl _) _).trans (hb1.mono (by simp))
  have hlt1 : w.heap.size < w1.heap.size := by have := hb1.size; simp at this; omega
  have Hres := Lib.hid hres
  clear hb1 hz1 hres
  go_loopw [8] (fun k wr => ∃ (n : Nat) (K : Int), n ≤ 3 ∧ k = .int .i64 (E + n) ∧ nearRel E t a n K ∧ Below w.heap.size w wr ∧ w1.heap.size < wr.heap.size ∧ Hid (wr.heap[w1.heap.size]? = some (.cells #[.int .i64 (lo_ K a), .int .i64 (hi_ K a)] 32)) ∧ Hid (wr.heap[w.heap.size]? = some (.cells #[.int .i64 0, .int .i64 0] 32))) (fun k _ => (E + 3 - intOf k).toNat)
  case atStart =>
    refine ⟨0, E - 1, by omega, by simp, ?_, hbw1.alloc (by omega) _, by simp, heap_alloc_new w1 _, (Below.heap_alloc w1 _ _ hlt1).trans Hres.out⟩
    exact ⟨by omega, by omega, fun j hj hj' => by obtain rfl : j = E - 1 := by omega
                                                  exact Int.le_refl _⟩
  case round =>
    obtain ⟨n, K, hn, rfl, hrel, hbw, hsz, hbl, hre⟩ := hrel
    have hK0 : -70 ≤ K := by have := hrel.1; omega
    have hK1 : K ≤ 70 := by have := hrel.2.1; omega
    by_cases hlt : n < 3
    · go_wp2_with (go_at_call 19; refine (stamp_any _ _ (by omega) (by omega) (by omega) (by omega) _).mono ?_; rintro e w4 ⟨rfl, hb4⟩)
      have hz4 := hb4.size
      have hcK := two_cells ((Below.heap_alloc w4 (.cells #[.int .i64 (lo_ (E + n) a), .int .i64 (hi_ (E + n) a)] 32) _ (by omega)).trans ((hb4.block _ hsz).trans hbl.out))
      have hcS := two_cells (heap_alloc_new w4 (.cells #[.int .i64 (lo_ (E + n) a), .int .i64 (hi_ (E + n) a)] 32))
      obtain ⟨k0, k1⟩ := hcK
      obtain ⟨s0, s1⟩ := hcS
      have hW : Below (w4.heap.size + 1) (w4.alloc (.cells #[.int .i64 (lo_ (E + n) a), .int .i64 (hi_ (E + n) a)] 32)) (w4.alloc (.cells #[.int .i64 (lo_ (E + n) a), .int .i64 (hi_ (E + n) a)] 32)) := Below.refl _ _
      generalize hWW : w4.alloc (.cells #[.int .i64 (lo_ (E + n) a), .int .i64 (hi_ (E + n) a)] 32) = W at k0 k1 s0 s1 hW ⊢
      have HW := Lib.hid hWW
      have hsW : w4.heap.size + 1 ≤ W.heap.size := by rw [← hWW]; simp
      clear hWW
      go_region_held3 (fun w' => w'.cell? ⟨w1.heap.size, 0, none⟩ = some (.int .i64 (lo_ K a)) ∧ w'.cell? ⟨w1.heap.size, 1, none⟩ = some (.int .i64 (hi_ K a)) ∧ w'.cell? ⟨w4.heap.size, 0, none⟩ = some (.int .i64 (lo_ (E + n) a)) ∧ w'.cell? ⟨w4.heap.size, 1, none⟩ = some (.int .i64 (hi_ (E + n) a)) ∧ Below (w4.heap.size + 1) W w')
        (first | (go_split_ands; exact ⟨by assumption, by assumption, by assumption, by assumption, (by assumption : Below _ _ _).drew⟩) | (go_split_ands; exact keep4 hbq (by assumption) hsW (by dsimp only; omega) (by dsimp only; omega) (by dsimp only; omega) (by dsimp only; omega) (by assumption) (by assumption) (by assumption) (by assumption)))
        (first | (go_at_call 16; refine (valid_k _ _ (by omega) (by omega) (by omega) (by omega) _).mono ?_; rintro e w' ⟨rfl, hbq⟩) | (go_at_call 21; refine (dist_k _ _ _ (by omega) (by omega) (by omega) (by omega) (by omega) (by omega) _).mono ?_; rintro e w' ⟨rfl, hbq⟩))
      rename_i hH
      obtain ⟨q0, q1, q2, q3, hWq⟩ := hH
      have hbl' : W.heap[w1.heap.size]? = some (.cells #[.int .i64 (lo_ K a), .int .i64 (hi_ K a)] 32) := by
        rw [← HW.out]; exact (Below.heap_alloc w4 _ _ (by omega)).trans ((hb4.block _ hsz).trans hbl.out)
      have hre' : W.heap[w.heap.size]? = some (.cells #[.int .i64 0, .int .i64 0] 32) := by
        rw [← HW.out]; exact (Below.heap_alloc w4 _ _ (by omega)).trans ((hb4.block _ (by omega)).trans hre.out)
      have hwr : Below w.heap.size w W := by rw [← HW.out]; exact (hbw.trans (hb4.mono (by omega))).alloc (by omega) _
      have hbl2 := (hWq.block _ (by omega)).trans hbl'
      have hre2 := Lib.hid ((hWq.block _ (by omega)).trans hre')
      have hfr : ∀ o, w'.frozen? ⟨w1.heap.size, o, none⟩ = false := fun o => by simp [World.frozen?, hbl2]
      have Hbl2 := Lib.hid hbl2
      have hbf := hwr.trans (hWq.mono (by omega))
      have hsz' := hWq.size
      clear hb4 hbq hW k0 k1 s0 s1 HW hbl hre hbl2 hbl' hre' hwr hWq
      go_wp2
      · go_roundw
        case rel =>
          refine ⟨n + 1, E + n, by omega, by go_num, ?_, (hbf.setCell (by dsimp only; omega) _).setCell (by dsimp only; omega) _, by simp [World.setCell]; omega, ?_, ?_⟩
          · exact near_take hrel (by assumption)
          · exact two_set Hbl2.out _ _
          · exact two_far hre2.out (by dsimp only; omega) (by dsimp only; omega) _ _
        case measure => simp [intOf]; omega
      · go_roundw
        case rel =>
          exact ⟨n + 1, K, by omega, by go_num, near_keep hrel (by omega), hbf, by omega, Hbl2, hre2⟩
        case measure => simp [intOf]; omega
    · obtain rfl : n = 3 := by omega
      have hre0 := two_cells hre.out
      have hbl0 := two_cells hbl.out
      obtain ⟨k0, k1⟩ := hbl0
      obtain ⟨r0, r1⟩ := hre0
      have hrf : ∀ o, wr.frozen? ⟨w.heap.size, o, none⟩ = false := fun o => by simp [World.frozen?, hre.out]
      go_wp2_with (fail)
      refine bodyPost_ret (v := .tuple #[.agg #[.int .i64 (lo_ K a), .int .i64 (hi_ K a)], .int .i64 0]) (by simp [results, Try.results14, go_sem, r0, r1]) rfl ?_
      exact ⟨K, rfl, by rw [HE.out]; exact hrel, (hbw.setCell (Nat.le_refl _) _).setCell (Nat.le_refl _) _⟩
end Go.Proofs.Ytgdbfjfnjjmfmaa

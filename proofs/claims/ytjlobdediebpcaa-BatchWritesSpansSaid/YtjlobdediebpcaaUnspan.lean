/- Contracts of batch.Unspan and of its reference: the span of bytes. Conditions: none but that the bytes are seen. -/
import Derived.Test.YtjlobdediebpcaaSpan
namespace Go.Proofs.Ytjlobdediebpcaa
open Go.RowKit
set_option linter.unusedVariables false
set_option linter.unusedSimpArgs false
attribute [local go_sem ↓] Go.wp_at_zero Go.wp_at_succ
def unLo (l : Bs) : Int := wrap64 (getB (l.take 8) : Int)
def unHi (l : Bs) : Int := wrap64 (getB (l.drop 8) : Int)
def unOk (l : Bs) : Bool := decide (l.length = 16) && vS (unLo l) (unHi l)
def unC (l : Bs) : Int := if unOk l then 0 else 3
def unA (l : Bs) : Int := if unOk l then unLo l else 0
def unB (l : Bs) : Int := if unOk l then unHi l else 0
def UnPost (l : Bs) (w : World) (e : Ending) (w' : World) : Prop :=
  e = .returned (.tuple #[.agg #[.int .i64 (unA l), .int .i64 (unB l)], .int .i64 (unC l)]) ∧ Below w.heap.size w w'
set_option maxRecDepth 100000 in
theorem cuts (w : World) (B : Nat) (A : Option Addr) (c : Nat) (l : Bs) (hl : l.length = 16) (hc : 16 ≤ c) (hs : SeesB w B (.slice A 16 c) l) :
    ∃ A1 A2, (∀ W, (Instr.slice 24 (.slice A 16 c) none (some (.int .i64 8)) none).run Try.prog W = .ok (.slice A1 8 c) W) ∧
      (∀ W, (Instr.slice 24 (.slice A 16 c) (some (.int .i64 8)) none none).run Try.prog W = .ok (.slice A2 8 (c - 8)) W) ∧
      SeesB w B (.slice A1 8 c) (l.take 8) ∧ SeesB w B (.slice A2 8 (c - 8)) (l.drop 8) := by
  have h1 := SeesB.cut (a := 0) (b := 8) hs (by omega) (by omega)
  have h2 := SeesB.cut (a := 8) (b := 16) hs (by omega) (by omega)
  rw [List.drop_zero] at h1
  rw [List.take_of_length_le (by rw [List.length_drop]; omega)] at h2
  refine ⟨cutA A c 0 1, cutA A c 8 1, fun W => ?_, fun W => ?_, h1, h2⟩
  · have h := run_cut_to (P := Try.prog) 24 Try.underlying24 1 byte_size A 16 c .i64 8 (by omega) (by omega) W
    rw [show (8 : Int).toNat = 8 from rfl] at h
    exact h
  · have h := run_cut_from (P := Try.prog) 24 Try.underlying24 1 byte_size A 16 c .i64 8 (by omega) (by omega) W
    rw [show (8 : Int).toNat = 8 from rfl] at h
    exact h
set_option maxRecDepth 100000 in
theorem runspan_any (B : Nat) (u : Value) (l : Bs) (w : World) (hu : SeesB w B u l) (hB : B ≤ w.heap.size) :
    Calls Try.prog 16 #[u] w (UnPost l w) := by
  obtain ⟨A, c, rfl, hc1, hc2⟩ := hu.mk_
  by_cases hl : l.length = 16
  · rw [hl] at hc1 hu ⊢
    obtain ⟨A1, A2, r1, r2, s1, s2⟩ := cuts w B A c l hl hc1 hu
    have e1 : unC l = if vS (unLo l) (unHi l) then 0 else 3 := by simp [unC, unOk, hl]
    have e2 : unA l = if vS (unLo l) (unHi l) then unLo l else 0 := by simp [unA, unOk, hl]
    have e3 : unB l = if vS (unLo l) (unHi l) then unHi l else 0 := by simp [unB, unOk, hl]
    have e4 : wrap64 (getB (l.take 8) : Int) = unLo l := rfl
    have e5 : wrap64 (getB (l.drop 8) : Int) = unHi l := rfl
    generalize unLo l = lo at *
    generalize unHi l = hi at *
    go_enter Try.func16, Try.ntmps16
    go_wp2_with fail
    have hb0 := balloc w (.cells #[.int .i64 0, .int .i64 0] 23)
    have hr := Box.new w 23 [.int .i64 0, .int .i64 0]
    have s1' := s1.below (hb0.mono hB)
    have s2' := s2.below (hb0.mono hB)
    have hBW : B ≤ (w.alloc (.cells #[.int .i64 0, .int .i64 0] 23)).heap.size := Nat.le_trans hB hb0.size
    clear s1 s2 hu
    generalize w.alloc (.cells #[.int .i64 0, .int .i64 0] 23) = W at *
    go_region_held3 (fun W' : World => True) (trivial) ((go_at_call 53; refine (rget_any B _ _ _ (by first | exact s1' | exact s2' | exact Sees.alloc s1' hBW _ | exact Sees.alloc s2' hBW _)).mono ?_; rintro e w' ⟨rfl, rfl⟩))
    all_goals
      go_wp2_with fail
      have hb1 : Below W.heap.size W (W.alloc (.cells #[.int .i64 lo, .int .i64 hi] 23)).drew := (balloc W _).drew
      have hx : Box (W.alloc (.cells #[.int .i64 lo, .int .i64 hi] 23)).drew W.heap.size 23 [.int .i64 lo, .int .i64 hi] := Box.new W _ _
      have hr1 := hr.below hb1
      generalize (W.alloc (.cells #[.int .i64 lo, .int .i64 hi] 23)).drew = W1 at *
      refine (rvalid_any lo hi _).mono ?_
      rintro e W2 ⟨rfl, hb2⟩
      have hx2 := hx.below hb2
      have hr2 := hr1.below hb2
      have x0 : W2.cell? ⟨W.heap.size, 0, none⟩ = some (.int .i64 lo) := hx2.cell 0
      have x1 : W2.cell? ⟨W.heap.size, 1, none⟩ = some (.int .i64 hi) := hx2.cell 1
      have y0 : W2.cell? ⟨w.heap.size, 0, none⟩ = some (.int .i64 0) := hr2.cell 0
      have y1 : W2.cell? ⟨w.heap.size, 1, none⟩ = some (.int .i64 0) := hr2.cell 1
      have f0 := hr2.frozen 0
      have f1 := hr2.frozen 1
      have hall := bgo (bgo hb0 hb1) hb2
      have hlt := hr2.lt
      dsimp only
      clear s1' s2' r1 r2 hx hr1 hx2 hr
      by_cases hv : vS lo hi = true
      · go_wp2_with fail
        have hall3 := (hall.setCell (p := ⟨w.heap.size, 0, none⟩) (Nat.le_refl _) (.int .i64 lo)).setCell (p := ⟨w.heap.size, 1, none⟩) (Nat.le_refl _) (.int .i64 hi)
        have hr3 := (hr2.set 0 (.int .i64 lo)).set 1 (.int .i64 hi)
        generalize (W2.setCell ⟨w.heap.size, 0, none⟩ (.int .i64 lo)).setCell ⟨w.heap.size, 1, none⟩ (.int .i64 hi) = W3 at *
        have z0 : W3.cell? ⟨w.heap.size, 0, none⟩ = some (.int .i64 lo) := hr3.cell 0
        have z1 : W3.cell? ⟨w.heap.size, 1, none⟩ = some (.int .i64 hi) := hr3.cell 1
        refine bodyPost_ret (v := .tuple #[.agg #[.int .i64 lo, .int .i64 hi], .int .i64 0]) (by simp [results, Try.results16, go_sem, z0, z1]) rfl ?_
        rw [UnPost, e1, e2, e3]
        exact ⟨by simp [hv], hall3⟩
      · go_wp2_with fail
        have hall3 := (hall.setCell (p := ⟨w.heap.size, 0, none⟩) (Nat.le_refl _) (.int .i64 0)).setCell (p := ⟨w.heap.size, 1, none⟩) (Nat.le_refl _) (.int .i64 0)
        have hr3 := (hr2.set 0 (.int .i64 0)).set 1 (.int .i64 0)
        generalize (W2.setCell ⟨w.heap.size, 0, none⟩ (.int .i64 0)).setCell ⟨w.heap.size, 1, none⟩ (.int .i64 0) = W3 at *
        have z0 : W3.cell? ⟨w.heap.size, 0, none⟩ = some (.int .i64 0) := hr3.cell 0
        have z1 : W3.cell? ⟨w.heap.size, 1, none⟩ = some (.int .i64 0) := hr3.cell 1
        refine bodyPost_ret (v := .tuple #[.agg #[.int .i64 0, .int .i64 0], .int .i64 3]) (by simp [results, Try.results16, go_sem, z0, z1]) rfl ?_
        rw [UnPost, e1, e2, e3]
        exact ⟨by simp [hv], hall3⟩
  · have e1 : unC l = 3 := by simp [unC, unOk, hl]
    have e2 : unA l = 0 := by simp [unA, unOk, hl]
    have e3 : unB l = 0 := by simp [unB, unOk, hl]
    have hl2 : ¬ ((l.length : Int) = 16) := by omega
    go_enter Try.func16, Try.ntmps16
    go_wp2_with fail
    go_returns
    rw [UnPost, e1, e2, e3]
    exact ⟨rfl, by go_grown⟩
set_option maxRecDepth 100000 in
theorem unspan_any (B : Nat) (u : Value) (l : Bs) (w : World) (hu : SeesB w B u l) (hB : B ≤ w.heap.size) :
    Calls Try.prog 14 #[u] w (UnPost l w) := by
  obtain ⟨A, c, rfl, hc1, hc2⟩ := hu.mk_
  by_cases hl : l.length = 16
  · rw [hl] at hc1 hu ⊢
    obtain ⟨A1, A2, r1, r2, s1, s2⟩ := cuts w B A c l hl hc1 hu
    have e1 : unC l = if vS (unLo l) (unHi l) then 0 else 3 := by simp [unC, unOk, hl]
    have e2 : unA l = if vS (unLo l) (unHi l) then unLo l else 0 := by simp [unA, unOk, hl]
    have e3 : unB l = if vS (unLo l) (unHi l) then unHi l else 0 := by simp [unB, unOk, hl]
    have e4 : wrap64 (getB (l.take 8) : Int) = unLo l := rfl
    have e5 : wrap64 (getB (l.drop 8) : Int) = unHi l := rfl
    generalize unLo l = lo at *
    generalize unHi l = hi at *
    go_enter Try.func14, Try.ntmps14
    go_wp2_with fail
    have hb0 := balloc w (.cells #[.int .i64 0, .int .i64 0] 23)
    have hr := Box.new w 23 [.int .i64 0, .int .i64 0]
    have s1' := s1.below (hb0.mono hB)
    have s2' := s2.below (hb0.mono hB)
    have hBW : B ≤ (w.alloc (.cells #[.int .i64 0, .int .i64 0] 23)).heap.size := Nat.le_trans hB hb0.size
    clear s1 s2 hu
    generalize w.alloc (.cells #[.int .i64 0, .int .i64 0] 23) = W at *
    go_region_held3 (fun W' : World => True) (trivial) ((go_at_call 52; refine (get_any B _ _ _ (by first | exact s1' | exact s2' | exact Sees.alloc s1' hBW _ | exact Sees.alloc s2' hBW _)).mono ?_; rintro e w' ⟨rfl, rfl⟩))
    all_goals
      go_wp2_with fail
      have hb1 : Below W.heap.size W (W.alloc (.cells #[.int .i64 lo, .int .i64 hi] 23)).drew := (balloc W _).drew
      have hx : Box (W.alloc (.cells #[.int .i64 lo, .int .i64 hi] 23)).drew W.heap.size 23 [.int .i64 lo, .int .i64 hi] := Box.new W _ _
      have hr1 := hr.below hb1
      generalize (W.alloc (.cells #[.int .i64 lo, .int .i64 hi] 23)).drew = W1 at *
      refine (valid_any lo hi _).mono ?_
      rintro e W2 ⟨rfl, hb2⟩
      have hx2 := hx.below hb2
      have hr2 := hr1.below hb2
      have x0 : W2.cell? ⟨W.heap.size, 0, none⟩ = some (.int .i64 lo) := hx2.cell 0
      have x1 : W2.cell? ⟨W.heap.size, 1, none⟩ = some (.int .i64 hi) := hx2.cell 1
      have y0 : W2.cell? ⟨w.heap.size, 0, none⟩ = some (.int .i64 0) := hr2.cell 0
      have y1 : W2.cell? ⟨w.heap.size, 1, none⟩ = some (.int .i64 0) := hr2.cell 1
      have f0 := hr2.frozen 0
      have f1 := hr2.frozen 1
      have hall := bgo (bgo hb0 hb1) hb2
      have hlt := hr2.lt
      dsimp only
      clear s1' s2' r1 r2 hx hr1 hx2 hr
      by_cases hv : vS lo hi = true
      · go_wp2_with fail
        have hall3 := (hall.setCell (p := ⟨w.heap.size, 0, none⟩) (Nat.le_refl _) (.int .i64 lo)).setCell (p := ⟨w.heap.size, 1, none⟩) (Nat.le_refl _) (.int .i64 hi)
        have hr3 := (hr2.set 0 (.int .i64 lo)).set 1 (.int .i64 hi)
        generalize (W2.setCell ⟨w.heap.size, 0, none⟩ (.int .i64 lo)).setCell ⟨w.heap.size, 1, none⟩ (.int .i64 hi) = W3 at *
        have z0 : W3.cell? ⟨w.heap.size, 0, none⟩ = some (.int .i64 lo) := hr3.cell 0
        have z1 : W3.cell? ⟨w.heap.size, 1, none⟩ = some (.int .i64 hi) := hr3.cell 1
        refine bodyPost_ret (v := .tuple #[.agg #[.int .i64 lo, .int .i64 hi], .int .i64 0]) (by simp [results, Try.results14, go_sem, z0, z1]) rfl ?_
        rw [UnPost, e1, e2, e3]
        exact ⟨by simp [hv], hall3⟩
      · go_wp2_with fail
        have hall3 := (hall.setCell (p := ⟨w.heap.size, 0, none⟩) (Nat.le_refl _) (.int .i64 0)).setCell (p := ⟨w.heap.size, 1, none⟩) (Nat.le_refl _) (.int .i64 0)
        have hr3 := (hr2.set 0 (.int .i64 0)).set 1 (.int .i64 0)
        generalize (W2.setCell ⟨w.heap.size, 0, none⟩ (.int .i64 0)).setCell ⟨w.heap.size, 1, none⟩ (.int .i64 0) = W3 at *
        have z0 : W3.cell? ⟨w.heap.size, 0, none⟩ = some (.int .i64 0) := hr3.cell 0
        have z1 : W3.cell? ⟨w.heap.size, 1, none⟩ = some (.int .i64 0) := hr3.cell 1
        refine bodyPost_ret (v := .tuple #[.agg #[.int .i64 0, .int .i64 0], .int .i64 3]) (by simp [results, Try.results14, go_sem, z0, z1]) rfl ?_
        rw [UnPost, e1, e2, e3]
        exact ⟨by simp [hv], hall3⟩
  · have e1 : unC l = 3 := by simp [unC, unOk, hl]
    have e2 : unA l = 0 := by simp [unA, unOk, hl]
    have e3 : unB l = 0 := by simp [unB, unOk, hl]
    have hl2 : ¬ ((l.length : Int) = 16) := by omega
    go_enter Try.func14, Try.ntmps14
    go_wp2_with fail
    go_returns
    rw [UnPost, e1, e2, e3]
    exact ⟨rfl, by go_grown⟩
end Go.Proofs.Ytjlobdediebpcaa

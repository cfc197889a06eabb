/- Contracts of quorum.Needed and sectimeref35.Needed. Conditions: the spans are seen, at most 64. -/
import Derived.Test.YtiiaghmdajdbbaaQM
namespace Go.Proofs.Ytiiaghmdajdbbaa
open Go.RowKit
set_option linter.unusedVariables false
set_option linter.unusedSimpArgs false
attribute [local go_sem ↓] Go.wp_at_zero Go.wp_at_succ
/-- What Needed finds. -/
def NeedR (l : List Sp) (n c : Int) : Prop :=
  (qchkC l 0 ≠ 0 ∧ n = 0 ∧ c = qchkC l 0) ∨
  (qchkC l 0 = 0 ∧ c = 0 ∧ 0 ≤ n ∧ 2 * n < l.length ∧ (∃ s, IsHull l (l.length - n) (some s)) ∧ ∀ g : Int, 0 ≤ g → g < n → IsHull l (l.length - g) none) ∨
  (qchkC l 0 = 0 ∧ c = 21 ∧ n = 0 ∧ ∀ g : Int, 0 ≤ g → 2 * g < l.length → IsHull l (l.length - g) none)
theorem NeedR.uniq {l : List Sp} {n c n' c' : Int} (h : NeedR l n c) (h' : NeedR l n' c') : n = n' ∧ c = c' := by
  rcases h with ⟨h1, h2, h3⟩ | ⟨h1, h2, h3, h4, ⟨s, h5⟩, h6⟩ | ⟨h1, h2, h3, h4⟩
  · rcases h' with ⟨k1, k2, k3⟩ | ⟨k1, k2, k3, k4, ⟨r, k5⟩, k6⟩ | ⟨k1, k2, k3, k4⟩
    · exact ⟨by omega, by omega⟩
    · exact absurd k1 h1
    · exact absurd k1 h1
  · rcases h' with ⟨k1, k2, k3⟩ | ⟨k1, k2, k3, k4, ⟨r, k5⟩, k6⟩ | ⟨k1, k2, k3, k4⟩
    · exact absurd h1 k1
    · refine ⟨?_, by omega⟩
      rcases Int.lt_trichotomy n n' with h | h | h
      · cases IsHull.uniq h5 (k6 n h3 h)
      · exact h
      · cases IsHull.uniq k5 (h6 n' k3 h)
    · cases IsHull.uniq h5 (k4 n h3 h4)
  · rcases h' with ⟨k1, k2, k3⟩ | ⟨k1, k2, k3, k4, ⟨r, k5⟩, k6⟩ | ⟨k1, k2, k3, k4⟩
    · exact absurd h1 k1
    · cases IsHull.uniq k5 (h4 n' k3 k4)
    · exact ⟨by omega, by omega⟩
def NeedP (l : List Sp) (w : World) (e : Ending) (w' : World) : Prop := ∃ n c, e = .returned (.tuple #[.int .i64 n, .int .i64 c]) ∧ NeedR l n c ∧ Below w.heap.size w w'
theorem need_bad {l : List Sp} {c : Int} {w w' : World} (h : qchkC l 0 = c) (hc : c ≠ 0) (hb : Below w.heap.size w w') : NeedP l w (.returned (.tuple #[.int .i64 0, .int .i64 c])) w' := by
  subst h; exact ⟨0, _, rfl, .inl ⟨hc, rfl, rfl⟩, hb⟩
theorem need_yes {l : List Sp} {k : Nat} {s : Sp} {w w' : World} (h : qchkC l 0 = 0) (hk : 2 * (k : Int) < l.length) (hs : IsHull l (l.length - (k : Int)) (some s)) (hp : ∀ g : Int, 0 ≤ g → g < k → IsHull l (l.length - g) none) (hb : Below w.heap.size w w') : NeedP l w (.returned (.tuple #[.int .i64 (k : Int), .int .i64 0])) w' :=
  ⟨k, 0, rfl, .inr (.inl ⟨h, rfl, by omega, hk, ⟨s, hs⟩, hp⟩), hb⟩
theorem need_no {l : List Sp} {k : Nat} {w w' : World} (h : qchkC l 0 = 0) (hk : ¬ 2 * (k : Int) < l.length) (hp : ∀ g : Int, 0 ≤ g → g < k → IsHull l (l.length - g) none) (hb : Below w.heap.size w w') : NeedP l w (.returned (.tuple #[.int .i64 0, .int .i64 21])) w' :=
  ⟨0, 21, rfl, .inr (.inr ⟨h, rfl, rfl, fun g g0 g1 => hp g g0 (by omega)⟩), hb⟩
theorem need_step {l : List Sp} {k : Nat} (hp : ∀ g : Int, 0 ≤ g → g < k → IsHull l (l.length - g) none) (h : IsHull l (l.length - (k : Int)) none) : ∀ g : Int, 0 ≤ g → g < ((k + 1 : Nat) : Int) → IsHull l (l.length - g) none := fun g g0 g1 => by
  by_cases e : g = k
  · subst e; exact h
  · exact hp g g0 (by omega)
set_option maxRecDepth 100000 in
set_option maxHeartbeats 4000000 in
theorem need_any (B : Nat) (u : Value) (l : List Sp) (w : World) (hu : SeesS w B u l) (hB : B ≤ w.heap.size) (hn : l.length ≤ 64) :
    Calls Try.prog 22 #[u] w (NeedP l w) := by
  have hck := qcheck_any B u l 0 w hu hB hn
  have hag := Lib.hid (fun (h : qchkC l 0 = 0) (k : Nat) W (hk : 2 * (k : Int) < l.length) (hb : Below w.heap.size w W) => agree_any B u l (l.length - (k : Int)) W (SeesS.below hu (hb.mono hB)) (Nat.le_trans hB hb.size) hn (by omega) (qchk_ok h).1 (by omega) (by omega))
  obtain ⟨A, c, rfl, -, -⟩ := hu.mk_
  clear hu
  by_cases hq : qchkC l 0 = 0
  · replace hag := Lib.hid (hag.out hq)
    rw [hq] at hck
    replace hck := Lib.hid hck
    replace hq := Lib.hid hq
    go_enter Try.func22, Try.ntmps22
    go_wp2_with fail
    refine hck.out.mono ?_
    rintro e w1 ⟨rfl, hb1⟩
    replace hb1 := Lib.hid hb1
    clear hck
    dsimp only
    go_wp2_with fail
    go_loopw [5, 6, 7] (fun i _ _ wr => ∃ k : Nat, k ≤ l.length ∧ i = .int .i64 k ∧ Hid (∀ g : Int, 0 ≤ g → g < k → IsHull l (l.length - g) none) ∧ Hid (Below w.heap.size w wr)) (fun i _ _ _ => l.length - (intOf i).toNat)
    case atStart => exact ⟨0, by omega, rfl, fun g g0 g1 => absurd g1 (by omega), hb1⟩
    case round =>
      obtain ⟨k, hk, rfl, hp, hb⟩ := hrel
      by_cases hlt : 2 * (k : Int) < (l.length : Int)
      · have e1 : IntKind.i64.wrap ((l.length : Int) - (k : Int)) = (l.length : Int) - (k : Int) := by rw [IntKind.wrap_i64]; omega
        have hag1 := Lib.hid (hag.out k wr hlt hb.out)
        go_wp2_with fail
        refine hag1.out.mono ?_
        rintro e w2 ⟨o, ho, rfl, hb2⟩
        replace hb := Lib.hid (bgo hb.out hb2)
        clear hag1 hb2 e1
        cases o with
        | none =>
          have hp2 : Hid (∀ g : Int, 0 ≤ g → g < ((k + 1 : Nat) : Int) → IsHull l (l.length - g) none) := need_step hp.out ho
          have hbn := Lib.hid (bgo hb.out (balloc w2 (.cells #[.int .i64 0, .int .i64 0] 28)))
          clear hb
          dsimp only [Option.getD, Option.isSome]
          go_wp2_with fail
          go_roundw
          case rel => exact ⟨k + 1, by omega, by go_num, hp2, hbn⟩
          case measure => simp [intOf]; omega
        | some s =>
          obtain ⟨lo, hi⟩ := s
          replace ho := Lib.hid ho
          have hbn := Lib.hid (bgo hb.out (balloc w2 (.cells #[.int .i64 lo, .int .i64 hi] 28)))
          have hlt2 := Lib.hid hlt
          clear hb
          dsimp only [Option.getD, Option.isSome]
          go_wp2_with fail
          go_returns
          exact need_yes hq.out hlt2.out ho.out hp.out hbn.out
      · have hlt2 := Lib.hid hlt
        go_wp2_with fail
        go_returns
        exact need_no hq.out (by have := hlt2.out; omega) hp.out hb.out
  · replace hck := Lib.hid hck
    obtain ⟨c, hc⟩ : ∃ c, qchkC l 0 = c := ⟨_, rfl⟩
    rw [hc] at hck hq
    replace hc := Lib.hid hc
    clear hag
    have i0 : (c == 0) = false := by simpa using hq
    have i1 : (c != 0) = true := by simpa using hq
    go_enter Try.func22, Try.ntmps22
    go_wp2_with fail
    refine hck.out.mono ?_
    rintro e w1 ⟨rfl, hb1⟩
    replace hb1 := Lib.hid hb1
    clear hck
    dsimp only
    go_wp2_with fail
    go_returns
    exact need_bad hc.out hq hb1.out
theorem qchk_k {l : List Sp} {k : Nat} (h : qchkC l 0 = 0) (hk : 2 * (k : Int) < l.length) : qchkC l (k : Int) = 0 := by
  have h1 := (qchk_ok h).1
  unfold qchkC
  rw [if_pos h1, if_pos ⟨by omega, hk⟩]
theorem rqagree_ok (B : Nat) (u : Value) (l : List Sp) (f : Int) (w : World) (hu : SeesS w B u l) (hB : B ≤ w.heap.size) (hn : l.length ≤ 64) (hq : qchkC l f = 0) :
    Calls Try.prog 17 #[u, .int .i64 f] w (HullP l (l.length - f) w) :=
  Calls.mono (rqagree_any B u l f w hu hB hn) fun e w' ⟨o, h1, h2, h3⟩ => ⟨o, by unfold AgO at h1; rwa [if_pos hq] at h1, by rw [h2]; unfold agC; rw [if_pos hq], h3⟩
set_option maxRecDepth 100000 in
set_option maxHeartbeats 4000000 in
theorem rneed_any (B : Nat) (u : Value) (l : List Sp) (w : World) (hu : SeesS w B u l) (hB : B ≤ w.heap.size) (hn : l.length ≤ 64) :
    Calls Try.prog 23 #[u] w (NeedP l w) := by
  have hck := rqcheck_any B u l 0 w hu hB hn
  have hag := Lib.hid (fun (h : qchkC l 0 = 0) (k : Nat) W (hk : 2 * (k : Int) < l.length) (hb : Below w.heap.size w W) => rqagree_ok B u l (k : Int) W (SeesS.below hu (hb.mono hB)) (Nat.le_trans hB hb.size) hn (qchk_k h hk))
  obtain ⟨A, c, rfl, -, -⟩ := hu.mk_
  clear hu
  by_cases hq : qchkC l 0 = 0
  · replace hag := Lib.hid (hag.out hq)
    rw [hq] at hck
    replace hck := Lib.hid hck
    replace hq := Lib.hid hq
    go_enter Try.func23, Try.ntmps23
    go_wp2_with fail
    refine hck.out.mono ?_
    rintro e w1 ⟨rfl, hb1⟩
    replace hb1 := Lib.hid hb1
    clear hck
    dsimp only
    go_wp2_with fail
    go_loopw [5, 6, 7] (fun i _ _ wr => ∃ k : Nat, k ≤ l.length ∧ i = .int .i64 k ∧ Hid (∀ g : Int, 0 ≤ g → g < k → IsHull l (l.length - g) none) ∧ Hid (Below w.heap.size w wr)) (fun i _ _ _ => l.length - (intOf i).toNat)
    case atStart => exact ⟨0, by omega, rfl, fun g g0 g1 => absurd g1 (by omega), hb1⟩
    case round =>
      obtain ⟨k, hk, rfl, hp, hb⟩ := hrel
      by_cases hlt : 2 * (k : Int) < (l.length : Int)
      · have e1 : IntKind.i64.wrap ((l.length : Int) - (k : Int)) = (l.length : Int) - (k : Int) := by rw [IntKind.wrap_i64]; omega
        have hag1 := Lib.hid (hag.out k wr hlt hb.out)
        go_wp2_with fail
        refine hag1.out.mono ?_
        rintro e w2 ⟨o, ho, rfl, hb2⟩
        replace hb := Lib.hid (bgo hb.out hb2)
        clear hag1 hb2 e1
        cases o with
        | none =>
          have hp2 : Hid (∀ g : Int, 0 ≤ g → g < ((k + 1 : Nat) : Int) → IsHull l (l.length - g) none) := need_step hp.out ho
          have hbn := Lib.hid (bgo hb.out (balloc w2 (.cells #[.int .i64 0, .int .i64 0] 28)))
          clear hb
          dsimp only [Option.getD, Option.isSome]
          go_wp2_with fail
          go_roundw
          case rel => exact ⟨k + 1, by omega, by go_num, hp2, hbn⟩
          case measure => simp [intOf]; omega
        | some s =>
          obtain ⟨lo, hi⟩ := s
          replace ho := Lib.hid ho
          have hbn := Lib.hid (bgo hb.out (balloc w2 (.cells #[.int .i64 lo, .int .i64 hi] 28)))
          have hlt2 := Lib.hid hlt
          clear hb
          dsimp only [Option.getD, Option.isSome]
          go_wp2_with fail
          go_returns
          exact need_yes hq.out hlt2.out ho.out hp.out hbn.out
      · have hlt2 := Lib.hid hlt
        go_wp2_with fail
        go_returns
        exact need_no hq.out (by have := hlt2.out; omega) hp.out hb.out
  · replace hck := Lib.hid hck
    obtain ⟨c, hc⟩ : ∃ c, qchkC l 0 = c := ⟨_, rfl⟩
    rw [hc] at hck hq
    replace hc := Lib.hid hc
    clear hag
    have i0 : (c == 0) = false := by simpa using hq
    have i1 : (c != 0) = true := by simpa using hq
    go_enter Try.func23, Try.ntmps23
    go_wp2_with fail
    refine hck.out.mono ?_
    rintro e w1 ⟨rfl, hb1⟩
    replace hb1 := Lib.hid hb1
    clear hck
    dsimp only
    go_wp2_with fail
    go_returns
    exact need_bad hc.out hq hb1.out
end Go.Proofs.Ytiiaghmdajdbbaa

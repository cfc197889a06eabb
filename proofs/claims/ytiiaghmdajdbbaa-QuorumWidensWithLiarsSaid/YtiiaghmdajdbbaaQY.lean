/- Contracts of sectimecase's Spans, of sectimelaw35's sources and sameInts. Conditions: the numbers are seen. -/
import Derived.Test.YtiiaghmdajdbbaaQX
import Derived.Test.YtiiaghmdajdbbaaQG
namespace Go.Proofs.Ytiiaghmdajdbbaa
open Go Go.RowKit
set_option linter.unusedVariables false
set_option linter.unusedSimpArgs false
attribute [local go_sem ↓] Go.wp_at_zero Go.wp_at_succ
theorem tspan_ok (l : List Int) (k : Nat) (m : Int) (hm : 0 ≤ m) (hm2 : m ≤ 1000) : vS (tspan l k m).1 (tspan l k m).2 = true := by
  unfold tspan vS
  have a1 := Int.emod_nonneg (l.getD k 0) (show m + m + 1 ≠ 0 by omega)
  have a2 := Int.emod_lt_of_pos (l.getD k 0) (show (0 : Int) < m + m + 1 by omega)
  have a3 := Int.emod_nonneg (l.getD (stepK l k) 0) (show m + 1 ≠ 0 by omega)
  have a4 := Int.emod_lt_of_pos (l.getD (stepK l k) 0) (show (0 : Int) < m + 1 by omega)
  dsimp only
  generalize l.getD k 0 % (m + m + 1) = x at *
  generalize l.getD (stepK l k) 0 % (m + 1) = y at *
  rw [decide_eq_true_iff]
  omega
theorem okV_push {l : List Sp} {s : Sp} (h : okV l = true) (hs : vS s.1 s.2 = true) : okV (l ++ [s]) = true := by
  unfold okV at *
  rw [List.all_append, h]
  simp [hs]
theorem row_tape' {w w' : World} {g base size n : Nat} {T : TypeId} {v : Value} {xs : List Value} (h : w.ownsRow base T size v n xs) (hg : w.grownBy w' (some g)) (hb : g < base) : w'.ownsRow base T size v n xs :=
  h.kept hg (.inr fun e => by have := (h.lt g e).1; omega)
def KSpansP (g n : Nat) (w : World) (e : Ending) (w' : World) : Prop := ∃ v ls, e = .returned v ∧ OwnS w' w.heap.size v ls ∧ ls.length ≤ n ∧ okV ls = true ∧ w.grownBy w' (some g)
theorem kspans_done {g n : Nat} {w w' : World} {v : Value} {ls : List Sp} {B : Nat} (h1 : OwnS w' B v ls) (hB : w.heap.size ≤ B) (hn : ls.length ≤ n) (ho : okV ls = true) (hg : w.grownBy w' (some g)) : KSpansP g n w (.returned v) w' := ⟨v, ls, rfl, row_mono h1 hB, hn, ho, hg⟩
/-- Behind the tape's block all is new. -/
theorem ggo' {a b c : World} {g : Nat} {r : Option Nat} (h1 : a.grownBy b (some g)) (h2 : b.grownBy c r) (hr : ∀ j, r = some j → a.heap.size ≤ j) : a.grownBy c (some g) :=
  ⟨h2.os.trans h1.os, h2.tape.trans h1.tape, h2.output.trans h1.output, Nat.le_trans h1.size h2.size, fun k hk hne => (h2.block k (Nat.lt_of_lt_of_le hk h1.size) (fun e => by have := hr k e.symm; omega)).trans (h1.block k hk hne)⟩
set_option maxRecDepth 100000 in
set_option maxHeartbeats 4000000 in
theorem kspans_any (g : Nat) (u : Value) (l : List Int) (k0 n : Nat) (m : Int) (w : World) (h : TapeAt w g u l k0) (hn : n ≤ 1000) (hm : 0 ≤ m) (hm2 : m ≤ 1000) :
    Calls Try.prog 14 #[.pointer (some ⟨g, 0, none⟩), .int .i64 (n : Int), .int .i64 m] w (KSpansP g n w) := by
  have hin := tint_any g u l k0 ((n : Int) + 1) w h (by omega) (by omega)
  have hr1 := Int.emod_nonneg (l.getD k0 0) (show (n : Int) + 1 ≠ 0 by omega)
  have hr2 := Int.emod_lt_of_pos (l.getD k0 0) (show 0 < (n : Int) + 1 by omega)
  obtain ⟨N, hN⟩ := Int.eq_ofNat_of_zero_le hr1
  rw [hN] at hin hr2
  obtain ⟨ti, hti, htz, hts, htb⟩ := info_parts span_info
  replace hti := Lib.hid hti
  replace htz := Lib.hid htz
  replace hts := Lib.hid hts
  replace htb := Lib.hid htb
  have hgl := Lib.hid h.1.lt
  replace hin := Lib.hid hin
  clear h hr1 hN
  have hNn : N ≤ n := by omega
  go_enter Try.func14, Try.ntmps14
  go_wp2_with fail
  refine hin.out.mono ?_
  rintro e w1 ⟨rfl, h1, hg1⟩
  have hz1 : Hid (w.heap.size ≤ w1.heap.size) := hg1.size
  replace h1 := Lib.hid h1
  replace hg1 := Lib.hid hg1
  clear hin hr2
  dsimp only
  go_wp2_with fail
  go_loopw [7, 8] (fun s t wr => ∃ (i j : Nat) (ls : List Sp), i ≤ N ∧ t = .int .i64 ((N - i : Nat) : Int) ∧ ls.length = i ∧ Hid (okV ls = true) ∧ Hid (OwnS wr w1.heap.size s ls) ∧ Hid (TapeAt wr g u l j) ∧ Hid (w.grownBy wr (some g)) ∧ Hid (w1.heap.size ≤ wr.heap.size)) (fun _ t _ => (intOf t).toNat)
  case atStart => exact ⟨0, _, [], by omega, by go_num, rfl, rfl, World.ownsRow_nil _ _ _ _, h1, hg1, Nat.le_refl _⟩
  case round =>
    obtain ⟨i, j, ls, hi, rfl, hll, hok, hs, ht, hg, hz⟩ := hrel
    obtain ⟨As, cs, rfl, -, -⟩ := (Sees.of_own hs.out).mk_
    have hsm : Hid (wr.ownsRow w1.heap.size 28 2 (.slice As i cs) i (spV ls)) := by show World.ownsRow _ _ _ _ _ _ _; rw [← hll]; exact hs.out
    rw [hll]
    by_cases hlt : i < N
    · have i0 : (0 : Int) < ((N - i : Nat) : Int) := by omega
      have hsp := tspan_any g _ l j m wr ht.out hm hm2
      have hv := Lib.hid (okV_push (s := tspan l j m) hok.out (tspan_ok l j m hm hm2))
      generalize tspan l j m = s at *
      obtain ⟨lo, hi'⟩ := s
      dsimp only at hsp
      replace hsp := Lib.hid hsp
      replace hll := Lib.hid hll
      clear hs
      go_wp2_with fail
      refine hsp.out.mono ?_
      rintro e w2 ⟨rfl, t2, g2⟩
      have s2 := row_tape' hsm.out g2 (Nat.lt_of_lt_of_le hgl.out hz1.out)
      have hal := balloc w2 (.cells #[.int .i64 lo, .int .i64 hi'] 28)
      have hrec : Hid (Sees (w2.alloc (.cells #[.int .i64 lo, .int .i64 hi'] 28)) (w2.heap.size + 1) (.slice (some ⟨w2.heap.size, 0, none⟩) 1 1) 2 1 [.int .i64 lo, .int .i64 hi']) := rec_lit w2 28 [.int .i64 lo, .int .i64 hi']
      replace s2 := Lib.hid (own_below s2 hal)
      replace t2 := Lib.hid (t2.grown hal)
      have hg3 := Lib.hid (ggo (ggo hg.out g2) (grown_of_below hal (some g)))
      have hz2 : Hid (w1.heap.size ≤ (w2.alloc (.cells #[.int .i64 lo, .int .i64 hi'] 28)).heap.size) := Nat.le_trans hz.out (Nat.le_trans g2.size hal.size)
      have hlt2 : Hid (∀ j, (Value.slice As i cs).ownBlock = some j → w1.heap.size ≤ j) := fun j hj => (s2.out.lt j hj).1
      clear hal hsp g2 hsm ht hg hz
      dsimp only
      go_wp2_with (at_builtin; refine wpList_append_sees (by rfl) _ _ 24 rfl w1.heap.size 28 ti _ 2 16 Try.underlying24 hti.out htz.out hts.out htb.out rfl (by omega) _ i _ rfl s2.out _ _ 1 _ rfl hrec.out (by simp [Value.oneCell']) (by unfold maxLen; omega) (by omega) hz2.out ?_)
      intro v3 w3 s3 g3 d3
      replace s3 := Lib.hid (ownS_push (p := (lo, hi')) hll.out s3)
      have t3 := Lib.hid (t2.out.row g3 (fun j hj => by have := hlt2.out j hj; have := hgl.out; have := hz1.out; omega))
      have hgf := Lib.hid (ggo' hg3.out g3 (fun j hj => Nat.le_trans hz1.out (hlt2.out j hj)))
      have hzf : Hid (w1.heap.size ≤ w3.heap.size) := Nat.le_trans hz2.out g3.size
      have hlf : Hid ((ls ++ [(lo, hi')]).length = i + 1) := by show _ = _; rw [List.length_append, hll.out]; rfl
      clear s2 t2 hrec g3 d3 hg3 hz2 hlt2
      go_wp2_with fail
      go_roundw
      case rel => exact ⟨i + 1, _, ls ++ [(lo, hi')], by omega, by first | go_num | (congr 1; omega), hlf.out, hv, s3, t3, hgf, hzf⟩
      case measure => simp [intOf]; omega
    · obtain rfl : i = N := by omega
      have i0 : ¬ (0 : Int) < ((i - i : Nat) : Int) := by omega
      have hsf : Hid (OwnS wr w1.heap.size (.slice As i cs) ls) := by show World.ownsRow _ _ _ _ _ _ _; rw [hll]; exact hsm.out
      replace hll := Lib.hid hll
      go_wp2_with fail
      go_returns
      exact kspans_done hsf.out hz1.out (by rw [hll.out]; exact hNn) hok.out hg.out
set_option maxRecDepth 100000 in
theorem sameI_true (B : Nat) (u v : Value) (xs : List Int) (w : World) (hu : SeesI w B u xs) (hv : SeesI w B v xs) :
    Calls Try.prog 21 #[u, v] w fun e w' => e = .returned (.bool true) ∧ ∃ m, w' = w.drewN m := by
  obtain ⟨A, c, rfl, hc1, hc2⟩ := hu.mk_
  obtain ⟨A', c', rfl, hc1', hc2'⟩ := hv.mk_
  have hm : xs.length ≤ 9223372036854775807 := by unfold maxLen at hc2; omega
  replace hu := Lib.hid hu
  replace hv := Lib.hid hv
  go_enter Try.func21, Try.ntmps21
  go_wp2_with fail
  go_loopw [5] (fun i wr => ∃ k m : Nat, k ≤ xs.length ∧ i = .int .i64 k ∧ wr = w.drewN m) (fun i _ => xs.length - (intOf i).toNat)
  case atStart => exact ⟨0, 0, Nat.zero_le _, rfl, rfl⟩
  case round =>
    obtain ⟨k, m, hk, rfl, rfl⟩ := hrel
    by_cases hlt : k < xs.length
    · obtain ⟨b, o, rfl, hb, hcell⟩ := SeesI.at_ hu.out (by omega)
      obtain ⟨b', o', rfl, hb', hcell'⟩ := SeesI.at_ hv.out (by omega)
      obtain ⟨x, hx⟩ : ∃ x, xs[k]? = some x := ⟨_, List.getElem?_eq_getElem hlt⟩
      have x0 := hcell k x hx
      have y0 := hcell' k x hx
      replace hx := Lib.hid hx
      clear hcell hcell'
      have i0 : (0 : Int) ≤ (k : Int) := by omega
      have i1 : (k : Int) < (xs.length : Int) := by omega
      go_wp2
      go_quiet (fail)
      go_wp2
      go_roundw
      case rel => exact ⟨k + 1, _, by omega, by go_num, rfl⟩
      case measure => simp [intOf]; omega
    · have i0 : ¬ (k : Int) < (xs.length : Int) := by omega
      go_wp2
      go_ret
      exact ⟨rfl, _, rfl⟩
end Go.Proofs.Ytiiaghmdajdbbaa

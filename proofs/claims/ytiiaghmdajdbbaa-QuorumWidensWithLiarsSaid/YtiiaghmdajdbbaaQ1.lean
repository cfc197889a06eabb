/- Contract of sectimelaw35.sources. Conditions: the numbers are seen; truth is small. -/
import Derived.Test.YtiiaghmdajdbbaaQY
namespace Go.Proofs.Ytiiaghmdajdbbaa
open Go Go.RowKit
set_option linter.unusedVariables false
set_option linter.unusedSimpArgs false
attribute [local go_sem ↓] Go.wp_at_zero Go.wp_at_succ
/-- Sources of which the first f may be any, and the others contain an instant. -/
structure Src (ls : List Sp) (f truth : Int) : Prop where
  ne : 1 ≤ ls.length
  le : ls.length ≤ 9
  f0 : 0 ≤ f
  f2 : 2 * f < ls.length
  ok : okV ls = true
  hon : ∀ (i : Nat) s, f ≤ i → ls[i]? = some s → s.1 ≤ truth ∧ truth ≤ s.2
def SourcesP (truth : Int) (w : World) (e : Ending) (w' : World) : Prop := ∃ v ls f, e = .returned (.tuple #[v, .int .i64 f]) ∧ OwnS w' w.heap.size v ls ∧ Src ls f truth ∧ Below w.heap.size w w'
theorem src_done {truth : Int} {w w' : World} {v : Value} {ls : List Sp} {B g N F i : Nat} (h1 : OwnS w' B v ls) (hB : w.heap.size ≤ B) (hl : ls.length = i) (hi : i = N) (hN1 : 1 ≤ N) (hN : N ≤ 9) (hF : 2 * F < N) (hok : okV ls = true) (hh : ∀ (j : Nat) s, F ≤ j → ls[j]? = some s → s.1 ≤ truth ∧ truth ≤ s.2) (hb : Below w.heap.size w w') : SourcesP truth w (.returned (.tuple #[v, .int .i64 (F : Int)])) w' :=
  ⟨v, ls, F, rfl, row_mono h1 hB, ⟨by omega, by omega, by omega, by omega, hok, fun j s hj hs => hh j s (by omega) hs⟩, hb⟩
theorem hon_push {ls : List Sp} {i F : Nat} {truth : Int} {s : Sp} (hl : ls.length = i) (h : ∀ (j : Nat) s, F ≤ j → ls[j]? = some s → s.1 ≤ truth ∧ truth ≤ s.2) (hs : F ≤ i → s.1 ≤ truth ∧ truth ≤ s.2) : ∀ (j : Nat) t, F ≤ j → (ls ++ [s])[j]? = some t → t.1 ≤ truth ∧ truth ≤ t.2 := by
  intro j t hj ht
  rcases Nat.lt_or_ge j i with h1 | h1
  · rw [List.getElem?_append_left (by omega)] at ht
    exact h j t hj ht
  · rw [List.getElem?_append_right (by omega)] at ht
    have : j - ls.length = 0 := by
      have := (List.getElem?_eq_some_iff.1 ht).1
      simp at this; omega
    rw [this] at ht
    cases ht
    exact hs (by omega)
theorem small_ok {a b : Int} (h1 : -100 ≤ a) (h2 : a ≤ b) (h3 : b ≤ 100) : vS a b = true := by
  unfold vS; rw [decide_eq_true_iff]; omega
set_option maxRecDepth 100000 in
set_option maxHeartbeats 4000000 in
theorem sources_any (u : Value) (l : List Int) (truth : Int) (w : World) (h : SeesT w w.heap.size u l) (ht1 : -15 ≤ truth) (ht2 : truth ≤ 15) :
    Calls Try.prog 9 #[u, .int .i64 truth] w (SourcesP truth w) := by
  obtain ⟨A, c, rfl, -, -⟩ := h.mk_
  have hne := Lib.hid (tnew_any _ l w h)
  obtain ⟨ti, hti, htz, hts, htb⟩ := info_parts span_info
  replace hti := Lib.hid hti
  replace htz := Lib.hid htz
  replace hts := Lib.hid hts
  replace htb := Lib.hid htb
  have hr1 := Int.emod_nonneg (l.getD 0 0) (show (9 : Int) ≠ 0 by omega)
  have hr2 := Int.emod_lt_of_pos (l.getD 0 0) (show (0 : Int) < 9 by omega)
  obtain ⟨n0, hn0⟩ := Int.eq_ofNat_of_zero_le hr1
  rw [hn0] at hr2
  clear h hr1
  go_enter Try.func9, Try.ntmps9
  go_wp2_with fail
  refine hne.out.mono ?_
  rintro e W0 ⟨rfl, ht0, hb0, hgl⟩
  have hin := tint_any _ _ l 0 9 W0 ht0 (by omega) (by omega)
  rw [hn0] at hin
  generalize hgg : w.heap.size = g at *
  replace hgg := Lib.hid hgg
  replace hin := Lib.hid hin
  replace hn0 := Lib.hid hn0
  clear hne ht0
  dsimp only
  go_wp2_with fail
  refine hin.out.mono ?_
  rintro e w1 ⟨rfl, h1, hg1⟩
  have hb1 : Hid (Below g w w1) := hb0.trans ⟨hg1.os, hg1.tape, hg1.output, hg1.size, fun k hk => hg1.block k (by omega) (fun e => by have := Option.some.inj e; omega)⟩
  have hgl1 : Hid (g < w1.heap.size) := Nat.lt_of_lt_of_le hgl hg1.size
  clear hin hg1 hb0 hgl
  obtain ⟨N, hN⟩ : ∃ N, n0 + 1 = N := ⟨_, rfl⟩
  have eN : (1 : Int) + (n0 : Int) = (N : Int) := by omega
  have eh : ((N : Int) + 1) / 2 = (((N + 1) / 2 : Nat) : Int) := by omega
  have hN1 : 1 ≤ N := by omega
  have hN9 : N ≤ 9 := by omega
  have hin := tint_any _ _ l _ ((((N + 1) / 2 : Nat) : Int)) w1 h1 (by omega) (by omega)
  have hr1 := Int.emod_nonneg (l.getD (stepK l 0) 0) (show (((N + 1) / 2 : Nat) : Int) ≠ 0 by omega)
  have hr3 := Int.emod_lt_of_pos (l.getD (stepK l 0) 0) (show (0 : Int) < (((N + 1) / 2 : Nat) : Int) by omega)
  obtain ⟨F, hF⟩ := Int.eq_ofNat_of_zero_le hr1
  rw [hF] at hin hr3
  have hF2 : 2 * F < N := by omega
  replace hF := Lib.hid hF
  replace hN := Lib.hid hN
  rw [← eh] at hin
  replace hin := Lib.hid hin
  clear hr1 hr3 eh h1
  dsimp only
  go_wp2_with fail
  refine hin.out.mono ?_
  rintro e w2 ⟨rfl, h2, hg2⟩
  have hz2 : Hid (w1.heap.size ≤ w2.heap.size) := hg2.size
  have hb2 : Hid (Below g w w2) := hb1.out.trans ⟨hg2.os, hg2.tape, hg2.output, hg2.size, fun k hk => hg2.block k (by have := hgl1.out; omega) (fun e => by have := Option.some.inj e; omega)⟩
  have hgl2 : Hid (g < w2.heap.size) := Nat.lt_of_lt_of_le hgl1.out hz2.out
  replace h2 := Lib.hid h2
  clear hin hg2 hb1
  dsimp only
  go_wp2_with fail
  go_loopw [9, 10] (fun s t wr => ∃ (i j : Nat) (ls : List Sp), i ≤ N ∧ t = .int .i64 (i : Int) ∧ ls.length = i ∧ Hid (okV ls = true) ∧ Hid (∀ (j : Nat) s, F ≤ j → ls[j]? = some s → s.1 ≤ truth ∧ truth ≤ s.2) ∧ Hid (OwnS wr w2.heap.size s ls) ∧ Hid (TapeAt wr g (.slice A l.length c) l j) ∧ Hid (Below g w wr) ∧ Hid (w2.heap.size ≤ wr.heap.size)) (fun _ t _ => N - (intOf t).toNat)
  case atStart => exact ⟨0, _, [], by omega, rfl, rfl, rfl, fun j s _ h => absurd h (by simp), World.ownsRow_nil _ _ _ _, h2, hb2, Nat.le_refl _⟩
  case round =>
    obtain ⟨i, j, ls, hi, rfl, hll, hok, hh, hs, ht, hb, hz⟩ := hrel
    obtain ⟨As, cs, rfl, -, -⟩ := (Sees.of_own hs.out).mk_
    have hsm : Hid (wr.ownsRow w2.heap.size 28 2 (.slice As i cs) i (spV ls)) := by show World.ownsRow _ _ _ _ _ _ _; rw [← hll]; exact hs.out
    rw [hll]
    by_cases hlt : i < N
    · have i0 : (i : Int) < (N : Int) := by omega
      by_cases hif : i < F
      · have i1 : (i : Int) < (F : Int) := by omega
        have hsp := tspan_any g _ l j 40 wr ht.out (by omega) (by omega)
        have hv := Lib.hid (okV_push (s := tspan l j 40) hok.out (tspan_ok l j 40 (by omega) (by omega)))
        have hhn := Lib.hid (hon_push (s := tspan l j 40) hll hh.out (fun h => absurd h (by omega)))
        generalize tspan l j 40 = s at *
        obtain ⟨lo, hi'⟩ := s
        dsimp only at hsp
        replace hsp := Lib.hid hsp
        replace hll := Lib.hid hll
        clear hs
        go_wp2_with fail
        refine hsp.out.mono ?_
        rintro e w3 ⟨rfl, t2, g2⟩
        have s2 := row_tape' hsm.out g2 hgl2.out
        have hal := balloc w3 (.cells #[.int .i64 lo, .int .i64 hi'] 28)
        have hrec : Hid (Sees (w3.alloc (.cells #[.int .i64 lo, .int .i64 hi'] 28)) (w3.heap.size + 1) (.slice (some ⟨w3.heap.size, 0, none⟩) 1 1) 2 1 [.int .i64 lo, .int .i64 hi']) := rec_lit w3 28 [.int .i64 lo, .int .i64 hi']
        replace s2 := Lib.hid (own_below s2 hal)
        replace t2 := Lib.hid (t2.grown hal)
        have hb3 : Hid (Below g w (w3.alloc (.cells #[.int .i64 lo, .int .i64 hi'] 28))) := (hb.out.trans ⟨g2.os, g2.tape, g2.output, g2.size, fun k hk => g2.block k (by have := hz.out; have := hgl2.out; omega) (fun e => by have := Option.some.inj e; omega)⟩).trans (hal.mono (by have := hz.out; have := hgl2.out; have := g2.size; omega))
        have hz3 : Hid (w2.heap.size ≤ (w3.alloc (.cells #[.int .i64 lo, .int .i64 hi'] 28)).heap.size) := Nat.le_trans hz.out (Nat.le_trans g2.size hal.size)
        have hlt2 : Hid (∀ j, (Value.slice As i cs).ownBlock = some j → w2.heap.size ≤ j) := fun j hj => (s2.out.lt j hj).1
        clear hal g2 hsm ht hb hz hok hh
        dsimp only
        go_wp2_with (at_builtin; refine wpList_append_sees (by rfl) _ _ 24 rfl w2.heap.size 28 ti _ 2 16 Try.underlying24 hti.out htz.out hts.out htb.out rfl (by omega) _ i _ rfl s2.out _ _ 1 _ rfl hrec.out (by simp [Value.oneCell']) (by unfold maxLen; omega) (by omega) hz3.out ?_)
        intro v3 w4 s3 g3 d3
        replace s3 := Lib.hid (ownS_push (p := (lo, hi')) hll.out s3)
        have t3 := Lib.hid (t2.out.row g3 (fun j hj => by have := hlt2.out j hj; have := hgl2.out; omega))
        have hbf := Lib.hid (bgrowO hb3.out g3 (fun j hj => by have := hlt2.out j hj; have := hgl2.out; omega) (Nat.le_trans (Nat.le_of_lt hgl2.out) hz3.out))
        have hzf : Hid (w2.heap.size ≤ w4.heap.size) := Nat.le_trans hz3.out g3.size
        have hlf : Hid ((ls ++ [(lo, hi')]).length = i + 1) := by show _ = _; rw [List.length_append, hll.out]; rfl
        clear s2 t2 hrec g3 d3 hb3 hz3 hlt2
        go_wp2_with fail
        go_roundw
        case rel => exact ⟨i + 1, _, ls ++ [(lo, hi')], by omega, by go_num, hlf.out, hv, hhn, s3, t3, hbf, hzf⟩
        case measure => simp [intOf]; omega
      · have i1 : ¬ (i : Int) < (F : Int) := by omega
        have hia := tint_any g _ l j 15 wr ht.out (by omega) (by omega)
        have hib := Lib.hid (fun W (h : TapeAt W g (.slice A l.length c) l (stepK l j)) => tint_any g _ l (stepK l j) 15 W h (by omega) (by omega))
        have q1 := Int.emod_nonneg (l.getD j 0) (show (15 : Int) ≠ 0 by omega)
        have q2 := Int.emod_lt_of_pos (l.getD j 0) (show (0 : Int) < 15 by omega)
        have q3 := Int.emod_nonneg (l.getD (stepK l j) 0) (show (15 : Int) ≠ 0 by omega)
        have q4 := Int.emod_lt_of_pos (l.getD (stepK l j) 0) (show (0 : Int) < 15 by omega)
        generalize l.getD j 0 % 15 = x at *
        generalize l.getD (stepK l j) 0 % 15 = y at *
        have hv := Lib.hid (okV_push (s := (truth - x, truth + y)) hok.out (small_ok (by omega) (by omega) (by omega)))
        have hhn := Lib.hid (hon_push (s := (truth - x, truth + y)) hll hh.out (fun h => ⟨by show truth - x ≤ truth; omega, by show truth ≤ truth + y; omega⟩))
        replace hia := Lib.hid hia
        replace hll := Lib.hid hll
        clear hs
        go_wp2_with fail
        refine hia.out.mono ?_
        rintro e w3a ⟨rfl, t1, g1⟩
        have hi1 := Lib.hid (hib.out w3a t1)
        replace g1 := Lib.hid g1
        clear hia hib t1
        dsimp only
        go_wp2_with fail
        refine hi1.out.mono ?_
        rintro e w3 ⟨rfl, t2, g2'⟩
        have g2 := ggo g1.out g2'
        clear g1 g2' hi1
        have s2 := row_tape' hsm.out g2 hgl2.out
        have hal := balloc w3 (.cells #[.int .i64 (truth - x), .int .i64 (truth + y)] 28)
        have hrec : Hid (Sees (w3.alloc (.cells #[.int .i64 (truth - x), .int .i64 (truth + y)] 28)) (w3.heap.size + 1) (.slice (some ⟨w3.heap.size, 0, none⟩) 1 1) 2 1 [.int .i64 (truth - x), .int .i64 (truth + y)]) := rec_lit w3 28 [.int .i64 (truth - x), .int .i64 (truth + y)]
        replace s2 := Lib.hid (own_below s2 hal)
        replace t2 := Lib.hid (t2.grown hal)
        have hb3 : Hid (Below g w (w3.alloc (.cells #[.int .i64 (truth - x), .int .i64 (truth + y)] 28))) := (hb.out.trans ⟨g2.os, g2.tape, g2.output, g2.size, fun k hk => g2.block k (by have := hz.out; have := hgl2.out; omega) (fun e => by have := Option.some.inj e; omega)⟩).trans (hal.mono (by have := hz.out; have := hgl2.out; have := g2.size; omega))
        have hz3 : Hid (w2.heap.size ≤ (w3.alloc (.cells #[.int .i64 (truth - x), .int .i64 (truth + y)] 28)).heap.size) := Nat.le_trans hz.out (Nat.le_trans g2.size hal.size)
        have hlt2 : Hid (∀ j, (Value.slice As i cs).ownBlock = some j → w2.heap.size ≤ j) := fun j hj => (s2.out.lt j hj).1
        clear hal g2 hsm ht hb hz hok hh
        dsimp only
        go_wp2_with (at_builtin; refine wpList_append_sees (by rfl) _ _ 24 rfl w2.heap.size 28 ti _ 2 16 Try.underlying24 hti.out htz.out hts.out htb.out rfl (by omega) _ i _ rfl s2.out _ _ 1 _ rfl hrec.out (by simp [Value.oneCell']) (by unfold maxLen; omega) (by omega) hz3.out ?_)
        intro v3 w4 s3 g3 d3
        replace s3 := Lib.hid (ownS_push (p := ((truth - x), (truth + y))) hll.out s3)
        have t3 := Lib.hid (t2.out.row g3 (fun j hj => by have := hlt2.out j hj; have := hgl2.out; omega))
        have hbf := Lib.hid (bgrowO hb3.out g3 (fun j hj => by have := hlt2.out j hj; have := hgl2.out; omega) (Nat.le_trans (Nat.le_of_lt hgl2.out) hz3.out))
        have hzf : Hid (w2.heap.size ≤ w4.heap.size) := Nat.le_trans hz3.out g3.size
        have hlf : Hid ((ls ++ [((truth - x), (truth + y))]).length = i + 1) := by show _ = _; rw [List.length_append, hll.out]; rfl
        clear s2 t2 hrec g3 d3 hb3 hz3 hlt2
        go_wp2_with fail
        go_roundw
        case rel => exact ⟨i + 1, _, ls ++ [((truth - x), (truth + y))], by omega, by go_num, hlf.out, hv, hhn, s3, t3, hbf, hzf⟩
        case measure => simp [intOf]; omega
    · have hie : Hid (i = N) := by show _ = _; omega
      have i0 : ¬ (i : Int) < (N : Int) := by omega
      have hsf : Hid (OwnS wr w2.heap.size (.slice As i cs) ls) := by show World.ownsRow _ _ _ _ _ _ _; rw [hll]; exact hsm.out
      replace hll := Lib.hid hll
      go_wp2_with fail
      go_returns
      exact src_done (g := g) hsf.out (by rw [hgg.out]; exact Nat.le_of_lt hgl2.out) hll.out hie.out hN1 hN9 hF2 hok.out hh.out (hgg.out ▸ hb.out)
end Go.Proofs.Ytiiaghmdajdbbaa

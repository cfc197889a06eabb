/- Contract of quorum.Trim. Conditions: the spans are seen, at most 64. -/
import Derived.Test.YtiiaghmdajdbbaaQT
import Derived.Test.YtiiaghmdajdbbaaQH
namespace Go.Proofs.Ytiiaghmdajdbbaa
open Go.RowKit
set_option linter.unusedVariables false
set_option linter.unusedSimpArgs false
attribute [local go_sem ↓] Go.wp_at_zero Go.wp_at_succ
set_option maxRecDepth 100000 in
set_option maxHeartbeats 8000000 in
theorem trim_any (B : Nat) (u : Value) (l : List Sp) (f : Int) (w : World) (hu : SeesS w B u l) (hB : B ≤ w.heap.size) (hn : l.length ≤ 64) :
    Calls Try.prog 19 #[u, .int .i64 f] w (TrimP l f w) := by
  have x4 := Box.new w 28 [.int .i64 0, .int .i64 0]
  change Box (w.alloc (.cells #[.int .i64 0, .int .i64 0] 28)) _ _ _ at x4
  have hal := balloc w (.cells #[.int .i64 0, .int .i64 0] 28)
  have hu1 := SeesS.below hu (hal.mono hB)
  have hck := qcheck_any B u l f _ hu1 (Nat.le_trans hB hal.size) hn
  obtain ⟨A, c, rfl, -, -⟩ := hu.mk_
  replace hal := Lib.hid hal
  replace hu := Lib.hid hu
  clear hu1
  by_cases hq : qchkC l f = 0
  · have hbd := qchk_ok hq
    obtain ⟨-, b1, b2⟩ := hbd
    obtain ⟨F, rfl⟩ := Int.eq_ofNat_of_zero_le b1
    rw [hq] at hck
    replace hck := Lib.hid hck
    have htc : Hid (trC l (F : Int) = if tLo l (F : Int) ≤ tHi l (F : Int) then 0 else 21) := by show _ = _; unfold trC; rw [if_pos hq]
    replace hq := Lib.hid hq
    go_enter Try.func19, Try.ntmps19
    go_upto_region 1 with (fail)
    generalize w.alloc (.cells #[.int .i64 0, .int .i64 0] 28) = W0 at *
    generalize hgg : w.heap.size = g4 at x4 ⊢
    replace hgg := Lib.hid hgg
    go_wp2_with fail
    refine hck.out.mono ?_
    rintro e W1 ⟨rfl, hb1⟩
    have hbw := Lib.hid (bgo hal.out hb1)
    replace x4 := Lib.hid (x4.below hb1)
    clear hck hal hb1
    dsimp only
    go_wp2_with fail
    go_loopw [7, 8, 10, 21] (fun v u _ i wr => ∃ k : Nat, k ≤ l.length ∧ i = .int .i64 k ∧ Hid (Two W1 wr v ((l.take k).map (·.1)) u ((l.take k).map (·.2)) [])) (fun _ _ _ i _ => l.length - (intOf i).toNat)
    case atStart => exact ⟨0, by omega, rfl, Two.start (Below.refl _ _)⟩
    case round =>
      obtain ⟨k, hk, rfl, ht⟩ := hrel
      obtain ⟨A7, n7, c7, rfl⟩ := ht.out.shape1
      obtain ⟨A8, n8, c8, rfl⟩ := ht.out.swap.shape1
      by_cases hlt : k < l.length
      · obtain ⟨b, o, rfl, hbB, hds⟩ := SeesS.at_ (Sees.below hu.out ((bgo hbw.out ht.out.below).mono hB)) (by omega)
        obtain ⟨s, hsk⟩ : ∃ s, l[k]? = some s := ⟨_, List.getElem?_eq_getElem hlt⟩
        obtain ⟨c0, c1⟩ := hds k s hsk
        have m1 := Lib.hid (map_take_snoc (fun s : Sp => s.1) hsk)
        have m2 := Lib.hid (map_take_snoc (fun s : Sp => s.2) hsk)
        have l1 : Hid (((l.take k).map (·.1)).length ≤ 1000) := by show _ ≤ _; rw [List.length_map]; exact Nat.le_trans (List.length_take_le _ _) (by omega)
        have l2 : Hid (((l.take k).map (·.2)).length ≤ 1000) := by show _ ≤ _; rw [List.length_map]; exact Nat.le_trans (List.length_take_le _ _) (by omega)
        obtain ⟨sl, sh⟩ := s
        dsimp only at c0 c1 m1 m2
        generalize (l.take k).map (·.1) = xs at *
        generalize (l.take k).map (·.2) = ys at *
        have i0 : (k : Int) < (l.length : Int) := by omega
        have i1 : (0 : Int) ≤ (k : Int) := by omega
        have x10 := Box.new wr 28 [.int .i64 sl, .int .i64 sh]
        change Box (wr.alloc (.cells #[.int .i64 sl, .int .i64 sh] 28)) _ _ _ at x10
        have t0 := ht.out.alloc 28 [.int .i64 sl, .int .i64 sh]
        change Two W1 (wr.alloc (.cells #[.int .i64 sl, .int .i64 sh] 28)) _ _ _ _ _ at t0
        replace hsk := Lib.hid hsk
        clear hds ht
        go_upto_region 8 with (fail)
        generalize wr.alloc (.cells #[.int .i64 sl, .int .i64 sh] 28) = W2 at *
        generalize wr.heap.size = g10 at *
        clear c0 c1
        obtain ⟨y0, y1⟩ := boxT2 x10
        have t7 : True := trivial
        have t8 : True := trivial
        obtain ⟨B7, m7, d7, B8, m8, d8⟩ : Option Addr × Nat × Nat × Option Addr × Nat × Nat := ⟨none, 0, 0, none, 0, 0⟩
        replace t0 : Has W1 W2 (.slice A7 n7 c7) xs (.slice A8 n8 c8) ys g10 28 [.int .i64 sl, .int .i64 sh] := ⟨_, t0, List.mem_cons_self ..⟩
        go_region_held3 (fun W => W.cell? ⟨g10, 0, none⟩ = some (.int .i64 sl) ∧ W.cell? ⟨g10, 1, none⟩ = some (.int .i64 sh))
          ((apply Has.span; (· (repeat (first | (with_reducible exact t0) | (with_reducible apply Has.drew) | (with_reducible refine Has.step ?_ t7) | (with_reducible refine Has.step ?_ t8) | (with_reducible refine Has.new ?_ (by first | (with_reducible rfl) | (simp; done))) | (with_reducible apply Has.old) | (with_reducible exact t0.any) | (with_reducible refine Any2.drew ?_) | (with_reducible refine Any2.step ?_ t7) | (with_reducible refine Any2.step ?_ t8) | (with_reducible refine Any2.alloc ?_ _ _))))))
          (first
            | (refine step_two1 (w0 := W1) (v := .slice A7 n7 c7) (xs := xs) (u := .slice A8 n8 c8) (ys := ys) (x := sl) (by rfl) (.tmp 25) (.tmp 28) (by rfl) (by rfl) (by rfl) ?_ ?_ ?_; (· (repeat (first | (with_reducible exact t0) | (with_reducible apply Has.drew) | (with_reducible refine Has.step ?_ t7) | (with_reducible refine Has.step ?_ t8) | (with_reducible refine Has.new ?_ (by first | (with_reducible rfl) | (simp; done))) | (with_reducible apply Has.old) | (with_reducible exact t0.any) | (with_reducible refine Any2.drew ?_) | (with_reducible refine Any2.step ?_ t7) | (with_reducible refine Any2.step ?_ t8) | (with_reducible refine Any2.alloc ?_ _ _)))); (· exact l1.out); intro v7 w7 t7; obtain ⟨B7, m7, d7, rfl⟩ : ∃ A n c, v7 = .slice A n c := (Any2.shape1 (Any2.step (by (repeat (first | (with_reducible exact t0) | (with_reducible apply Has.drew) | (with_reducible refine Has.step ?_ t7) | (with_reducible refine Has.step ?_ t8) | (with_reducible refine Has.new ?_ (by first | (with_reducible rfl) | (simp; done))) | (with_reducible apply Has.old) | (with_reducible exact t0.any) | (with_reducible refine Any2.drew ?_) | (with_reducible refine Any2.step ?_ t7) | (with_reducible refine Any2.step ?_ t8) | (with_reducible refine Any2.alloc ?_ _ _)))) t7)))
            | (refine step_two1 (w0 := W1) (v := .slice A7 n7 c7) (xs := xs) (u := .slice B8 m8 d8) (ys := (ys ++ [sh])) (x := sl) (by rfl) (.tmp 25) (.tmp 28) (by rfl) (by rfl) (by rfl) ?_ ?_ ?_; (· (repeat (first | (with_reducible exact t0) | (with_reducible apply Has.drew) | (with_reducible refine Has.step ?_ t7) | (with_reducible refine Has.step ?_ t8) | (with_reducible refine Has.new ?_ (by first | (with_reducible rfl) | (simp; done))) | (with_reducible apply Has.old) | (with_reducible exact t0.any) | (with_reducible refine Any2.drew ?_) | (with_reducible refine Any2.step ?_ t7) | (with_reducible refine Any2.step ?_ t8) | (with_reducible refine Any2.alloc ?_ _ _)))); (· exact l1.out); intro v7 w7 t7; obtain ⟨B7, m7, d7, rfl⟩ : ∃ A n c, v7 = .slice A n c := (Any2.shape1 (Any2.step (by (repeat (first | (with_reducible exact t0) | (with_reducible apply Has.drew) | (with_reducible refine Has.step ?_ t7) | (with_reducible refine Has.step ?_ t8) | (with_reducible refine Has.new ?_ (by first | (with_reducible rfl) | (simp; done))) | (with_reducible apply Has.old) | (with_reducible exact t0.any) | (with_reducible refine Any2.drew ?_) | (with_reducible refine Any2.step ?_ t7) | (with_reducible refine Any2.step ?_ t8) | (with_reducible refine Any2.alloc ?_ _ _)))) t7)))
            | (refine step_two2 (w0 := W1) (v := .slice A7 n7 c7) (xs := xs) (u := .slice A8 n8 c8) (ys := ys) (x := sh) (by rfl) (.tmp 30) (.tmp 33) (by rfl) (by rfl) (by rfl) ?_ ?_ ?_; (· (repeat (first | (with_reducible exact t0) | (with_reducible apply Has.drew) | (with_reducible refine Has.step ?_ t7) | (with_reducible refine Has.step ?_ t8) | (with_reducible refine Has.new ?_ (by first | (with_reducible rfl) | (simp; done))) | (with_reducible apply Has.old) | (with_reducible exact t0.any) | (with_reducible refine Any2.drew ?_) | (with_reducible refine Any2.step ?_ t7) | (with_reducible refine Any2.step ?_ t8) | (with_reducible refine Any2.alloc ?_ _ _)))); (· exact l2.out); intro v8 w8 t8; obtain ⟨B8, m8, d8, rfl⟩ : ∃ A n c, v8 = .slice A n c := (Any2.shape2 (Any2.step (by (repeat (first | (with_reducible exact t0) | (with_reducible apply Has.drew) | (with_reducible refine Has.step ?_ t7) | (with_reducible refine Has.step ?_ t8) | (with_reducible refine Has.new ?_ (by first | (with_reducible rfl) | (simp; done))) | (with_reducible apply Has.old) | (with_reducible exact t0.any) | (with_reducible refine Any2.drew ?_) | (with_reducible refine Any2.step ?_ t7) | (with_reducible refine Any2.step ?_ t8) | (with_reducible refine Any2.alloc ?_ _ _)))) t8)))
            | (refine step_two2 (w0 := W1) (v := .slice B7 m7 d7) (xs := (xs ++ [sl])) (u := .slice A8 n8 c8) (ys := ys) (x := sh) (by rfl) (.tmp 30) (.tmp 33) (by rfl) (by rfl) (by rfl) ?_ ?_ ?_; (· (repeat (first | (with_reducible exact t0) | (with_reducible apply Has.drew) | (with_reducible refine Has.step ?_ t7) | (with_reducible refine Has.step ?_ t8) | (with_reducible refine Has.new ?_ (by first | (with_reducible rfl) | (simp; done))) | (with_reducible apply Has.old) | (with_reducible exact t0.any) | (with_reducible refine Any2.drew ?_) | (with_reducible refine Any2.step ?_ t7) | (with_reducible refine Any2.step ?_ t8) | (with_reducible refine Any2.alloc ?_ _ _)))); (· exact l2.out); intro v8 w8 t8; obtain ⟨B8, m8, d8, rfl⟩ : ∃ A n c, v8 = .slice A n c := (Any2.shape2 (Any2.step (by (repeat (first | (with_reducible exact t0) | (with_reducible apply Has.drew) | (with_reducible refine Has.step ?_ t7) | (with_reducible refine Has.step ?_ t8) | (with_reducible refine Has.new ?_ (by first | (with_reducible rfl) | (simp; done))) | (with_reducible apply Has.old) | (with_reducible exact t0.any) | (with_reducible refine Any2.drew ?_) | (with_reducible refine Any2.step ?_ t7) | (with_reducible refine Any2.step ?_ t8) | (with_reducible refine Any2.alloc ?_ _ _)))) t8))))
        all_goals
          rename_i hHeld
          clear hHeld y0 y1 x10
          go_wp2_with fail
          go_roundw
          case rel =>
            refine ⟨k + 1, by omega, by go_num, ?_⟩
            show Two _ _ _ _ _ _ _
            rw [m1.out, m2.out]
            apply Any2.two
            (repeat (first | (with_reducible exact t0) | (with_reducible apply Has.drew) | (with_reducible refine Has.step ?_ t7) | (with_reducible refine Has.step ?_ t8) | (with_reducible refine Has.new ?_ (by first | (with_reducible rfl) | (simp; done))) | (with_reducible apply Has.old) | (with_reducible exact t0.any) | (with_reducible refine Any2.drew ?_) | (with_reducible refine Any2.step ?_ t7) | (with_reducible refine Any2.step ?_ t8) | (with_reducible refine Any2.alloc ?_ _ _)))
          case measure => simp [intOf]; omega
      · obtain rfl : k = l.length := by omega
        have i0 : ¬ (l.length : Int) < (l.length : Int) := by omega
        rw [List.take_of_length_le (Nat.le_refl _)] at ht
        have hbr := Lib.hid ht.out.below
        have r1 := ht.out.r1
        have r2 := ht.out.r2
        have hsep := Lib.hid ht.out.sep
        have hx1 : (l.map (·.1)).length = l.length := List.length_map _
        have hx2 : (l.map (·.2)).length = l.length := List.length_map _
        have htl : Hid ((srt (l.map (·.1))).getD (l.length - 1 - F) 0 = tLo l (F : Int)) := rfl
        have hth : Hid ((srt (l.map (·.2))).getD F 0 = tHi l (F : Int)) := rfl
        rw [hx1] at r1
        rw [hx2] at r2
        generalize l.map (·.1) = xs at *
        generalize l.map (·.2) = ys at *
        obtain ⟨g7, cap7, e7, g7B, -, -, -, -⟩ := own_form r1 (by omega)
        injection e7 with e7 e7n e7'
        subst e7 e7n e7'
        obtain ⟨g8, cap8, e8, g8B, -, -, -, -⟩ := own_form r2 (by omega)
        injection e8 with e8 e8n e8'
        subst e8 e8n e8'
        have hne : g7 ≠ g8 := fun e => hsep.out g7 rfl (by rw [e]; rfl)
        have hs1 := Lib.hid (sort_any g7 c7 l.length xs W1.heap.size wr hx1 r1 (by omega))
        replace r2 := Lib.hid r2
        clear r1 ht hsep
        replace hne := Lib.hid hne
        go_wp2_with fail
        refine hs1.out.mono ?_
        rintro e w2 ⟨rfl, r1, hg1⟩
        have r2' := r2.out.kept hg1 (.inr fun e => hne.out (by injection e with e; exact e.symm))
        have hb2 := bgrow hbr.out hg1 g7B hbr.out.size
        have hs2 := Lib.hid (sort_any g8 c8 l.length ys W1.heap.size w2 hx2 r2' (by omega))
        replace r1 := Lib.hid r1
        clear r2 r2' hs1 hg1 hbr
        dsimp only
        go_wp2_with fail
        refine hs2.out.mono ?_
        rintro e w3 ⟨rfl, r2, hg2⟩
        have r1' := r1.out.kept hg2 (.inr fun e => hne.out (by injection e with e))
        have hb3 := Lib.hid (bgrow hb2 hg2 g8B hb2.size)
        have hq1 : l.length - 1 - F < (srt xs).length := by rw [srt_len, hx1]; omega
        have hq2 : F < (srt ys).length := by rw [srt_len, hx2]; omega
        have z0 : w3.cell? ⟨g7, l.length - 1 - F, none⟩ = some (.int .i64 (tLo l (F : Int))) := by
          rw [r1'.cellAt _ (by omega), viI_get, List.getElem?_eq_getElem hq1, ← htl.out, List.getD_eq_getElem?_getD, List.getElem?_eq_getElem hq1]; rfl
        have z1 : w3.cell? ⟨g8, F, none⟩ = some (.int .i64 (tHi l (F : Int))) := by
          rw [r2.cellAt _ (by omega), viI_get, List.getElem?_eq_getElem hq2, ← hth.out, List.getD_eq_getElem?_getD, List.getElem?_eq_getElem hq2]; rfl
        obtain ⟨q, hqq⟩ : ∃ q, l.length - 1 - F = q := ⟨_, rfl⟩
        rw [hqq] at z0
        have e1 : IntKind.i64.wrap ((l.length : Int) - 1) = (l.length : Int) - 1 := by rw [IntKind.wrap_i64]; omega
        have e2 : IntKind.i64.wrap ((l.length : Int) - 1 - (F : Int)) = (q : Int) := by rw [IntKind.wrap_i64]; omega
        have i1 : (0 : Int) ≤ (q : Int) := by omega
        have i2 : (q : Int) < (l.length : Int) := by omega
        have i3 : (0 : Int) ≤ (F : Int) := by omega
        have i4 : (F : Int) < (l.length : Int) := by omega
        replace hqq := Lib.hid hqq
        clear htl hth hq1 hq2 r1 r1' r2 hs2 hg2 hb2 hx1 hx2
        generalize hlo : tLo l (F : Int) = lo at *
        generalize hhi : tHi l (F : Int) = hi at *
        replace hlo := Lib.hid hlo
        replace hhi := Lib.hid hhi
        have x4w := x4.out.below hb3.out
        have hbf := Lib.hid (bgo hbw.out hb3.out)
        have x11 := (Box.new w3 28 [.int .i64 lo, .int .i64 hi]).below (bdrew _)
        change Box (w3.alloc (.cells #[.int .i64 lo, .int .i64 hi] 28)).drew _ _ _ at x11
        have hal := bgo (balloc w3 (.cells #[.int .i64 lo, .int .i64 hi] 28)) (bdrew _)
        dsimp only
        go_wp2_with fail
        go_region_held3 (fun W => W.cell? ⟨g7, q, none⟩ = some (.int .i64 lo) ∧ W.cell? ⟨g8, F, none⟩ = some (.int .i64 hi)) (go_keep) (fail)
        rename_i hHeld
        clear hHeld
        go_upto_region 13 with (fail)
        replace x4w := x4w.below hal
        replace hbf := Lib.hid (bgo hbf.out hal)
        clear hal z0 z1 e1 e2
        generalize (w3.alloc (.cells #[.int .i64 lo, .int .i64 hi] 28)).drew = W4 at *
        generalize w3.heap.size = g11 at *
        obtain ⟨y0, y1⟩ := boxT2 x11
        obtain ⟨k0, k1, k2, k3⟩ := box2_cells x4w
        by_cases hle : lo ≤ hi
        · have htc2 : Hid (trC l (F : Int) = 0) := by show _ = _; rw [htc.out, if_pos hle]
          have x9 := box_set2 x4w (.int .i64 lo) (.int .i64 hi)
          have hb9 := Lib.hid (below_set2 (g := g4) hbf.out (Nat.le_of_eq hgg.out) (.int .i64 lo) (.int .i64 hi))
          go_wp2_with fail
          clear k0 k1 k2 k3 y0 y1
          obtain ⟨k0, k1⟩ := boxT2 x9
          refine bodyPost_ret (v := .tuple #[.agg #[.int .i64 lo, .int .i64 hi], .int .i64 0]) (by simp [results, Try.results19, go_sem, k0, k1]) rfl ?_
          exact trim_ok htc2.out hlo.out hhi.out hb9.out
        · have htc2 : Hid (trC l (F : Int) = 21) := by show _ = _; rw [htc.out, if_neg hle]
          have x9 := box_set2 x4w (.int .i64 0) (.int .i64 0)
          have hb9 := Lib.hid (below_set2 (g := g4) hbf.out (Nat.le_of_eq hgg.out) (.int .i64 0) (.int .i64 0))
          go_wp2_with fail
          clear k0 k1 k2 k3 y0 y1
          obtain ⟨k0, k1⟩ := boxT2 x9
          refine bodyPost_ret (v := .tuple #[.agg #[.int .i64 0, .int .i64 0], .int .i64 21]) (by simp [results, Try.results19, go_sem, k0, k1]) rfl ?_
          exact trim_bad htc2.out (by omega) hb9.out
  · have htc : Hid (trC l f = qchkC l f) := by show _ = _; unfold trC; rw [if_neg hq]
    replace hck := Lib.hid hck
    obtain ⟨c, hc⟩ : ∃ c, qchkC l f = c := ⟨_, rfl⟩
    rw [hc] at hck hq htc
    replace hc := Lib.hid hc
    have i0 : (c == 0) = false := by simpa using hq
    have i1 : (c != 0) = true := by simpa using hq
    go_enter Try.func19, Try.ntmps19
    go_upto_region 1 with (fail)
    generalize w.alloc (.cells #[.int .i64 0, .int .i64 0] 28) = W0 at *
    generalize hgg : w.heap.size = g4 at x4 ⊢
    replace hgg := Lib.hid hgg
    go_wp2_with fail
    refine hck.out.mono ?_
    rintro e w1 ⟨rfl, hb1⟩
    have hbw := Lib.hid (bgo hal.out hb1)
    replace x4 := x4.below hb1
    clear hck hal hb1
    dsimp only
    obtain ⟨k0, k1, k2, k3⟩ := box2_cells x4
    have x7 := box_set2 x4 (.int .i64 0) (.int .i64 0)
    have hb9 := Lib.hid (below_set2 (g := g4) hbw.out (Nat.le_of_eq hgg.out) (.int .i64 0) (.int .i64 0))
    go_wp2_with fail
    clear k0 k1 k2 k3
    obtain ⟨k0, k1⟩ := boxT2 x7
    refine bodyPost_ret (v := .tuple #[.agg #[.int .i64 0, .int .i64 0], .int .i64 c]) (by simp [results, Try.results19, go_sem, k0, k1]) rfl ?_
    exact trim_bad htc.out hq hb9.out
end Go.Proofs.Ytiiaghmdajdbbaa

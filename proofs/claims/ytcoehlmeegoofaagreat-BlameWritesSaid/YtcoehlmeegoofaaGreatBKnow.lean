/- Contracts of sectimeref32.Same at equal proofs, sectimelaw32.light and known (a proof without links is none). Conditions: the links are seen. -/
import Derived.Test.YtcoehlmeegoofaaGreatDecP
namespace Go.Proofs.YtcoehlmeegoofaaGreat
open Go Go.RowKit
set_option linter.unusedVariables false
set_option linter.unusedSimpArgs false
attribute [local go_sem ↓] Go.wp_at_zero Go.wp_at_succ
set_option maxRecDepth 100000 in
theorem rpsame_eq (u v : Value) (ls : List Lk) (f s : Int) (w : World) (hu : SeesR w w.heap.size u 3 ls.length (linkS ls)) (hv : SeesR w w.heap.size v 3 ls.length (linkS ls)) (hn : ls.length ≤ 1048576) :
    Calls Tryz.prog 11 #[.agg #[u, .int .i64 f, .int .i64 s], .agg #[v, .int .i64 f, .int .i64 s]] w (BoolPost true w) := by
  obtain ⟨A, c, rfl, -, -⟩ := hu.mk_
  obtain ⟨A', c', rfl, -, -⟩ := hv.mk_
  have hal := bgo (balloc w (.cells #[.slice A ls.length c, .int .i64 f, .int .i64 s] 24)) (balloc _ (.cells #[.slice A' ls.length c', .int .i64 f, .int .i64 s] 24))
  have x2 := (Box.new w 24 [.slice A ls.length c, .int .i64 f, .int .i64 s]).below (balloc _ (.cells #[.slice A' ls.length c', .int .i64 f, .int .i64 s] 24))
  have x3 := Box.new (w.alloc (.cells #[.slice A ls.length c, .int .i64 f, .int .i64 s] 24)) 24 [.slice A' ls.length c', .int .i64 f, .int .i64 s]
  rw [World.size_alloc] at x3
  change Box ((w.alloc (.cells #[.slice A ls.length c, .int .i64 f, .int .i64 s] 24)).alloc (.cells #[.slice A' ls.length c', .int .i64 f, .int .i64 s] 24)) _ _ _ at x2 x3
  have hs := fun W => Lib.hid (rcsame_eq (.slice A ls.length c) (.slice A' ls.length c') ls W)
  have hu2 := Lib.hid ((hu.below hal).more hal.size)
  have hv2 := Lib.hid ((hv.below hal).more hal.size)
  replace hal := Lib.hid hal
  clear hu hv
  go_enter Tryz.func11, Tryz.ntmps11
  go_upto_region 1 with (fail)
  generalize (w.alloc (.cells #[.slice A ls.length c, .int .i64 f, .int .i64 s] 24)).alloc (.cells #[.slice A' ls.length c', .int .i64 f, .int .i64 s] 24) = W0 at *
  generalize w.heap.size + 1 = g3 at x3 ⊢
  generalize w.heap.size = g2 at x2 ⊢
  have hc := Lib.hid ((hs W0).out hu2.out hv2.out hn)
  obtain ⟨y0, y1, y2, -, -, -⟩ := box3_cells x2
  obtain ⟨z0, z1, z2, -, -, -⟩ := box3_cells x3
  clear hs
  go_wp2_with fail
  refine hc.out.mono ?_
  rintro e w1 ⟨rfl, hb1⟩
  obtain ⟨p0, p1, p2, -, -, -⟩ := box3_cells (x2.below hb1)
  obtain ⟨q0, q1, q2, -, -, -⟩ := box3_cells (x3.below hb1)
  have hbw := Lib.hid (bgo hal.out hb1)
  clear hc y0 y1 y2 z0 z1 z2 x2 x3 hb1
  dsimp only
  go_wp2_with fail
  go_ret
  exact ⟨by simp, hbw.out⟩
def lightP (ls : List Lk) : Bool := decide (ls.length ≤ 10) && ls.all fun t => decide (t.1.length ≤ 300) && decide (t.2.1.length ≤ 300) && decide (t.2.2.length ≤ 300)
theorem lightP_take {ls : List Lk} {k : Nat} {t : Lk} (h : ls[k]? = some t) : (ls.take (k + 1)).all (fun t => decide (t.1.length ≤ 300) && decide (t.2.1.length ≤ 300) && decide (t.2.2.length ≤ 300)) = ((ls.take k).all (fun t => decide (t.1.length ≤ 300) && decide (t.2.1.length ≤ 300) && decide (t.2.2.length ≤ 300)) && (decide (t.1.length ≤ 300) && decide (t.2.1.length ≤ 300) && decide (t.2.2.length ≤ 300))) := by
  rw [List.take_add_one, List.all_append, h]; simp
theorem lightP_no {ls : List Lk} {k : Nat} {t : Lk} (h : ls[k]? = some t) (hb : 300 < t.1.length ∨ 300 < t.2.1.length ∨ 300 < t.2.2.length) : lightP ls = false := by
  unfold lightP
  rw [Bool.and_eq_false_iff]
  right
  rw [List.all_eq_false]
  refine ⟨t, List.mem_of_getElem? h, ?_⟩
  simp only [Bool.and_eq_true, decide_eq_true_eq]
  omega
theorem lightP_yes {ls : List Lk} (h10 : ls.length ≤ 10) (h : ∀ t ∈ ls, t.1.length ≤ 300 ∧ t.2.1.length ≤ 300 ∧ t.2.2.length ≤ 300) : lightP ls = true := by
  unfold lightP
  simp only [Bool.and_eq_true, decide_eq_true_eq, List.all_eq_true]
  exact ⟨h10, fun t ht => ⟨⟨(h t ht).1, (h t ht).2.1⟩, (h t ht).2.2⟩⟩
theorem lightP_spec {ls : List Lk} (h : lightP ls = true) : ls.length ≤ 10 ∧ ∀ t ∈ ls, t.1.length ≤ 300 ∧ t.2.1.length ≤ 300 ∧ t.2.2.length ≤ 300 := by
  unfold lightP at h
  simp only [Bool.and_eq_true, decide_eq_true_eq, List.all_eq_true] at h
  exact ⟨h.1, fun t ht => ⟨(h.2 t ht).1.1, (h.2 t ht).1.2, (h.2 t ht).2⟩⟩
set_option maxRecDepth 100000 in
set_option maxHeartbeats 4000000 in
theorem blight_any (u : Value) (ls : List Lk) (f s : Int) (w : World) (hu : SeesR w w.heap.size u 3 ls.length (linkS ls)) :
    Calls Tryz.prog 4 #[.agg #[u, .int .i64 f, .int .i64 s]] w (BoolPost (lightP ls) w) := by
  obtain ⟨A, c, rfl, -, hcm⟩ := hu.mk_
  have hal := balloc w (.cells #[.slice A ls.length c, .int .i64 f, .int .i64 s] 24)
  have x1 := Box.new w 24 [.slice A ls.length c, .int .i64 f, .int .i64 s]
  change Box (w.alloc (.cells #[.slice A ls.length c, .int .i64 f, .int .i64 s] 24)) _ _ _ at x1
  have hu2 := Lib.hid ((hu.below hal).more hal.size)
  replace hal := Lib.hid hal
  clear hu
  go_enter Tryz.func4, Tryz.ntmps4
  go_upto_region 1 with (fail)
  generalize w.alloc (.cells #[.slice A ls.length c, .int .i64 f, .int .i64 s] 24) = W0 at *
  generalize w.heap.size = g1 at x1 ⊢
  obtain ⟨y0, y1, y2, -, -, -⟩ := box3_cells x1
  by_cases h10 : 10 < ls.length
  · have i0 : (10 : Int) < (ls.length : Int) := by omega
    have hf : lightP ls = false := by unfold lightP; rw [decide_eq_false (by omega)]; rfl
    replace hf := Lib.hid hf
    go_wp2_with fail
    go_ret
    exact ⟨ret_bool (by rw [hf.out]), hal.out⟩
  have i0 : ¬ (10 : Int) < (ls.length : Int) := by omega
  go_wp2_with fail
  go_loopw [3] (fun t wr => ∃ k : Nat, k ≤ ls.length ∧ t = .int .i64 k ∧ wr = W0 ∧ Hid (∀ t ∈ ls.take k, t.1.length ≤ 300 ∧ t.2.1.length ≤ 300 ∧ t.2.2.length ≤ 300)) (fun t _ => ls.length - (intOf t).toNat)
  case atStart => exact ⟨0, by omega, rfl, rfl, fun t ht => by simp at ht⟩
  case round =>
    obtain ⟨k, hk, rfl, rfl, hal3⟩ := hrel
    by_cases hlt : k < ls.length
    · have i1 : (k : Int) < (ls.length : Int) := by omega
      have i2 : (0 : Int) ≤ (k : Int) := by omega
      obtain ⟨t, ht⟩ : ∃ t, ls[k]? = some t := ⟨_, List.getElem?_eq_getElem hlt⟩
      obtain ⟨bb, o, A1, c1, A2, c2, A3, c3, e, hbB, z0, s1, z1, s2, z2, s3⟩ := link_at hu2.out k t ht
      subst e
      have hno := Lib.hid (fun hb => lightP_no ht hb)
      have htk : Hid (ls.take (k + 1) = ls.take k ++ [t]) := by show _ = _; rw [List.take_add_one, ht]; rfl
      obtain ⟨d1, d2, d3⟩ := t
      dsimp only at z0 z1 z2 hno
      clear s1 s2 s3 ht
      by_cases h1 : 300 < d1.length
      · have j1 : (300 : Int) < (d1.length : Int) := by omega
        have hf := Lib.hid (hno.out (.inl h1))
        go_wp2_with fail
        try simp only [Exit.inBlock, Exit.then]
        go_ret
        exact ⟨ret_bool (by rw [hf.out]), hal.out⟩
      have j1 : ¬ (300 : Int) < (d1.length : Int) := by omega
      by_cases h2 : 300 < d2.length
      · have j2 : (300 : Int) < (d2.length : Int) := by omega
        have hf := Lib.hid (hno.out (.inr (.inl h2)))
        go_wp2_with fail
        try simp only [Exit.inBlock, Exit.then]
        go_ret
        exact ⟨ret_bool (by rw [hf.out]), hal.out⟩
      have j2 : ¬ (300 : Int) < (d2.length : Int) := by omega
      by_cases h3 : 300 < d3.length
      · have j3 : (300 : Int) < (d3.length : Int) := by omega
        have hf := Lib.hid (hno.out (.inr (.inr h3)))
        go_wp2_with fail
        try simp only [Exit.inBlock, Exit.then]
        go_ret
        exact ⟨ret_bool (by rw [hf.out]), hal.out⟩
      have j3 : ¬ (300 : Int) < (d3.length : Int) := by omega
      have hal4 : Hid (∀ t ∈ ls.take (k + 1), t.1.length ≤ 300 ∧ t.2.1.length ≤ 300 ∧ t.2.2.length ≤ 300) := fun t hm => by
        rw [htk.out, List.mem_append, List.mem_singleton] at hm
        rcases hm with hm | rfl
        · exact hal3.out t hm
        · exact ⟨by show d1.length ≤ 300; omega, by show d2.length ≤ 300; omega, by show d3.length ≤ 300; omega⟩
      clear h1 h2 h3 hno
      go_wp2_with fail
      go_roundw
      case rel => exact ⟨k + 1, by omega, by go_num, by first | trivial | rfl, hal4⟩
      case measure => simp [intOf]; omega
    · obtain rfl : k = ls.length := by omega
      have i1 : ¬ (ls.length : Int) < (ls.length : Int) := by omega
      have hf : Hid (lightP ls = true) := lightP_yes (by omega) (fun t ht => hal3.out t (by rw [List.take_of_length_le (Nat.le_refl _)]; exact ht))
      go_wp2_with fail
      go_ret
      exact ⟨ret_bool (by rw [hf.out]), hal.out⟩
theorem cverify_nilB (w : World) : Calls Tryz.prog 24 #[.slice none 0 0] w (VNil w) := callsIn_wide.1 (cverify_in w)
set_option maxRecDepth 100000 in
theorem bcheck_nil (w : World) : Calls Tryz.prog 14 #[.agg #[.slice none 0 0, .int .i64 0, .int .i64 0]] w fun e w' => e = .returned (.tuple #[.slice none 0 0, .int .i64 24]) ∧ Below w.heap.size w w' := by
  have hal := balloc w (.cells #[.slice none 0 0, .int .i64 0, .int .i64 0] 24)
  have x1 := Box.new w 24 [.slice none 0 0, .int .i64 0, .int .i64 0]
  change Box (w.alloc (.cells #[.slice none 0 0, .int .i64 0, .int .i64 0] 24)) _ _ _ at x1
  replace hal := Lib.hid hal
  go_enter Tryz.func14, Tryz.ntmps14
  go_upto_region 1 with (fail)
  generalize w.alloc (.cells #[.slice none 0 0, .int .i64 0, .int .i64 0] 24) = W0 at *
  generalize w.heap.size = g1 at x1 ⊢
  obtain ⟨y0, y1, y2, -, -, -⟩ := box3_cells x1
  go_wp2_with fail
  refine (cverify_nilB _).mono ?_
  rintro e w1 ⟨rfl, hb1⟩
  obtain ⟨z0, z1, z2, -, -, -⟩ := box3_cells (x1.below hb1)
  have hbw := Lib.hid (bgo hal.out hb1)
  clear y0 y1 y2 x1 hb1
  dsimp only
  go_wp2_with fail
  go_returns
  exact ⟨rfl, hbw.out⟩
set_option maxRecDepth 100000 in
theorem bfind_nil (w : World) : Calls Tryz.prog 15 #[.slice none 0 0] w fun e w' => e = .returned (.tuple #[.agg #[.slice none 0 0, .int .i64 0, .int .i64 0], .bool false, .int .i64 0]) ∧ Below w.heap.size w w' := by
  have hal := balloc w (.cells #[.slice none 0 0, .int .i64 0, .int .i64 0] 24)
  have x1 := Box.new w 24 [.slice none 0 0, .int .i64 0, .int .i64 0]
  change Box (w.alloc (.cells #[.slice none 0 0, .int .i64 0, .int .i64 0] 24)) _ _ _ at x1
  replace hal := Lib.hid hal
  go_enter Tryz.func15, Tryz.ntmps15
  go_upto_region 1 with (fail)
  generalize w.alloc (.cells #[.slice none 0 0, .int .i64 0, .int .i64 0] 24) = W0 at *
  have hg : Hid (w.heap.size ≤ w.heap.size) := Nat.le_refl _
  generalize hgg : w.heap.size = g1 at x1 hg ⊢
  replace hg := Lib.hid (Nat.le_of_eq hgg)
  clear hgg
  go_wp2_with fail
  refine (cverify_nilB _).mono ?_
  rintro e w1 ⟨rfl, hb1⟩
  have x2 := x1.below hb1
  have hbw := Lib.hid (bgo hal.out hb1)
  clear x1 hb1 hal
  dsimp only
  go_wp2_with fail
  go_loopw [22] (fun t wr => t = .int .i64 0 ∧ wr = w1) (fun _ _ => 0)
  case atStart => exact ⟨rfl, rfl⟩
  case round =>
    obtain ⟨rfl, hw⟩ := hrel
    obtain rfl := hw.symm
    obtain ⟨t0, t1, t2, r0, r1, r2⟩ := box3_cells x2
    go_wp2_with fail
    have kk := box_lset3 x2 (.slice none 0 0) (.int .i64 0) (.int .i64 0)
    have kb := Lib.hid (below_set3 hbw.out hg.out (.slice none 0 0) (.int .i64 0) (.int .i64 0))
    clear t0 t1 t2 r0 r1 r2 x2
    generalize ((w1.setCell ⟨g1, 0, none⟩ (.slice none 0 0)).setCell ⟨g1, 1, none⟩ (.int .i64 0)).setCell ⟨g1, 2, none⟩ (.int .i64 0) = W9 at *
    obtain ⟨z0, z1, z2, -, -, -⟩ := box3_cells kk
    refine bodyPost_ret (v := .tuple #[.agg #[.slice none 0 0, .int .i64 0, .int .i64 0], .bool false, .int .i64 0]) (by simp [results, Tryz.results15, go_sem, z0, z1, z2]) rfl ?_
    exact ⟨rfl, kb.out⟩
set_option maxRecDepth 100000 in
theorem bknown_any (w : World) : Calls Tryz.prog 5 #[] w (BoolPost true w) := by
  go_enter Tryz.func5, Tryz.ntmps5
  go_wp2_with fail
  refine (bcheck_nil _).mono ?_
  rintro e w1 ⟨rfl, hb1⟩
  replace hb1 := Lib.hid hb1
  dsimp only
  go_wp2_with fail
  refine (bfind_nil _).mono ?_
  rintro e w2 ⟨rfl, hb2⟩
  have hb3 := Lib.hid (bgo (bgo hb1.out hb2) (balloc w2 (.cells #[.slice none 0 0, .int .i64 0, .int .i64 0] 24)))
  clear hb1 hb2
  dsimp only
  go_wp2_with fail
  go_ret
  exact ⟨by simp, hb3.out⟩
end Go.Proofs.YtcoehlmeegoofaaGreat

/- The walk of the statement QuorumStaysWithinHonestSpans: it returns true. Conditions: the numbers are seen. -/
import Derived.Test.YtiiaghmdajdbbaaQ2
import Derived.Test.YtiiaghmdajdbbaaQZ
import Derived.BigRegion
namespace Go.Proofs.Ytiiaghmdajdbbaa
open Go Go.RowKit
set_option linter.unusedVariables false
set_option linter.unusedSimpArgs false
attribute [local go_sem ↓] Go.wp_at_zero Go.wp_at_succ
/-- The least Lo and the greatest Hi of the spans from place F to k. -/
def HR (ls : List Sp) (F k : Nat) (lo hi : Int) : Prop := (∀ (j : Nat) s, F ≤ j → j < k → ls[j]? = some s → lo ≤ s.1 ∧ s.2 ≤ hi) ∧ (∃ s ∈ ls, lo = s.1) ∧ (∃ s ∈ ls, hi = s.2) ∧ lo ≤ hi
theorem HR.step {ls : List Sp} {F k : Nat} {lo hi a b : Int} (h : HR ls F k lo hi) (hs : ls[k]? = some (a, b)) {lo' hi' : Int} (h1 : min lo a = lo') (h2 : max hi b = hi') : HR ls F (k + 1) lo' hi' := by
  obtain ⟨k1, ⟨s1, m1, e1⟩, ⟨s2, m2, e2⟩, k4⟩ := h
  have hm := List.mem_of_getElem? hs
  refine ⟨fun j s hj hjk hsj => ?_, ?_, ?_, by omega⟩
  · rcases Nat.lt_or_ge j k with h | h
    · have := k1 j s hj h hsj; omega
    · obtain rfl : j = k := by omega
      rw [hs] at hsj; cases hsj
      exact ⟨by show lo' ≤ a; omega, by show b ≤ hi'; omega⟩
  · by_cases h : lo ≤ a
    · exact ⟨s1, m1, by omega⟩
    · exact ⟨(a, b), hm, by show lo' = a; omega⟩
  · by_cases h : b ≤ hi
    · exact ⟨s2, m2, by omega⟩
    · exact ⟨(a, b), hm, by show hi' = b; omega⟩
/-- An end of Agree lies in an honest span. -/
theorem Src.honest {ls : List Sp} {f truth t : Int} (h : Src ls f truth) (ht : (ls.length : Int) - f ≤ (Proofs.Ytiiaghmdajdbbaa.cnt ls t : Int)) : ∃ (j : Nat) (s : Sp), f ≤ j ∧ ls[j]? = some s ∧ s.1 ≤ t ∧ t ≤ s.2 := by
  have h1 := cnt_split ls f.toNat t
  have h2 : Proofs.Ytiiaghmdajdbbaa.cnt (ls.take f.toNat) t ≤ f.toNat := Nat.le_trans (cnt_le _ _) (List.length_take_le _ _)
  have := h.f0
  have := h.f2
  have h3 : 0 < Proofs.Ytiiaghmdajdbbaa.cnt (ls.drop f.toNat) t := by omega
  unfold Proofs.Ytiiaghmdajdbbaa.cnt at h3
  obtain ⟨s, hs, hh⟩ := List.countP_pos_iff.1 h3
  obtain ⟨j, hj⟩ := List.getElem?_of_mem hs
  rw [List.getElem?_drop] at hj
  unfold hol at hh
  rw [decide_eq_true_iff] at hh
  exact ⟨_, s, by omega, hj, hh⟩
theorem HR.inside {ls : List Sp} {f truth lo hi a b : Int} {F k : Nat} (h : Src ls f truth) (hF : f = (F : Int)) (hk : k = ls.length) (hr : HR ls F k lo hi) (hs : IsHull ls (ls.length - f) (some (a, b))) (hv : vS a b = true) : inS a b lo hi = true := by
  obtain ⟨k1, ⟨s1, m1, rfl⟩, ⟨s2, m2, rfl⟩, k4⟩ := hr
  obtain ⟨j1, r1, q1, g1, p1, p2⟩ := h.honest hs.1
  obtain ⟨j2, r2, q2, g2, p3, p4⟩ := h.honest hs.2.1
  dsimp only at p1 p2 p3 p4
  have u1 := k1 j1 r1 (by omega) (by have := (List.getElem?_eq_some_iff.1 g1).1; omega) g1
  have u2 := k1 j2 r2 (by omega) (by have := (List.getElem?_eq_some_iff.1 g2).1; omega) g2
  have v1 := vS_bounds (okV_each h.ok s1 m1)
  have v2 := vS_bounds (okV_each h.ok s2 m2)
  unfold inS
  rw [hv, vS_mk v1.1 v2.2.1 k4, decide_eq_true (show s1.1 ≤ a by omega), decide_eq_true (show b ≤ s2.2 by omega)]; rfl
set_option maxRecDepth 100000 in
set_option maxHeartbeats 4000000 in
theorem stays_law (B : Nat) (v : Value) (l : List Int) (w : World) (s : SeesT w B v l) (hB : B ≤ w.heap.size) (truth : Int) (wt : (Lit.int .i64 truth).wf = true) :
    Calls Try.prog 3 #[v, .int .i64 truth] w fun e w' => e = .returned (.bool true) ∧ Below w.heap.size w w' := by
  have hs0 : SeesT w w.heap.size v l := Sees.more s hB
  have hwi := Lib.hid (fun W => kwithin_any truth 30 (by omega) (by omega) W)
  have hkn := Lib.hid (fun W => known_any W)
  have r1 := Int.emod_nonneg truth (show (30 : Int) ≠ 0 by omega)
  have r2 := Int.emod_lt_of_pos truth (show (0 : Int) < 30 by omega)
  generalize truth % 30 = x at *
  have hso := Lib.hid (sources_any v l (x - 15) w hs0 (by omega) (by omega))
  obtain ⟨A, c, rfl, -, -⟩ := hs0.mk_
  clear s hs0
  go_enter Try.func3, Try.ntmps3
  go_wp2_with fail
  refine (hwi.out _).mono ?_
  rintro e w' ⟨rfl, hw⟩
  obtain rfl := hw
  dsimp only
  go_wp2_with fail
  refine hso.out.mono ?_
  rintro e w1 ⟨u, ls, f, rfl, ho, hsrc, hb1⟩
  obtain ⟨Au, cu, rfl, -, -⟩ := (Sees.of_own ho).mk_
  have hss : Hid (SeesS w1 w1.heap.size (.slice Au ls.length cu) ls) := Sees.of_own ho
  have hn := hsrc.le
  have hf0 := hsrc.f0
  have hf2 := hsrc.f2
  obtain ⟨F, rfl⟩ := Int.eq_ofNat_of_zero_le hf0
  have hag := Lib.hid (qagree_any w1.heap.size _ ls (F : Int) w1 hss.out (Nat.le_refl _) (by omega))
  have ht1 : -15 ≤ x - 15 := by omega
  have ht2 : x - 15 ≤ 15 := by omega
  generalize x - 15 = t at *
  replace hb1 := Lib.hid hb1
  replace hsrc := Lib.hid hsrc
  clear ho hso hwi
  dsimp only
  go_wp2_with fail
  refine hag.out.mono ?_
  rintro e w2 ⟨o, hao, rfl, hb2⟩
  obtain ⟨s, rfl, hh, hv, t1, t2⟩ := hsrc.out.agree hao
  rw [hao.some_c]
  obtain ⟨a, b⟩ := s
  dsimp only [Option.getD] at *
  have x7 := Box.new w2 28 [.int .i64 a, .int .i64 b]
  change Box (w2.alloc (.cells #[.int .i64 a, .int .i64 b] 28)) _ _ _ at x7
  have hal := balloc w2 (.cells #[.int .i64 a, .int .i64 b] 28)
  have hb3 := Lib.hid (bgo hb2 hal)
  replace hh := Lib.hid hh
  replace hv := Lib.hid hv
  clear hag hb2 hal hao t1 t2
  go_upto_region 4 with (fail)
  generalize w2.alloc (.cells #[.int .i64 a, .int .i64 b] 28) = W3 at *
  generalize w2.heap.size = g7 at *
  obtain ⟨bb, oo, e9, hbB, hds⟩ := SeesS.at_ (SeesS.below hss.out hb3.out) (by omega)
  subst e9
  obtain ⟨r, hr⟩ : ∃ r, ls[F]? = some r := ⟨_, List.getElem?_eq_getElem (by omega)⟩
  obtain ⟨c0, c1⟩ := hds F r hr
  obtain ⟨ra, rb⟩ := r
  dsimp only at c0 c1
  have hrv := vS_bounds (okV_each hsrc.out.ok _ (List.mem_of_getElem? hr))
  have hH0 : Hid (HR ls F F ra rb) := ⟨fun j s h1 h2 => absurd h1 (by omega), ⟨_, List.mem_of_getElem? hr, rfl⟩, ⟨_, List.mem_of_getElem? hr, rfl⟩, hrv.2.2⟩
  have i0 : (F : Int) < (ls.length : Int) := by omega
  have i1 : (0 : Int) ≤ (F : Int) := by omega
  have x9 := Box.new W3 28 [.int .i64 ra, .int .i64 rb]
  change Box (W3.alloc (.cells #[.int .i64 ra, .int .i64 rb] 28)) _ _ _ at x9
  have hal := balloc W3 (.cells #[.int .i64 ra, .int .i64 rb] 28)
  have hne : g7 ≠ W3.heap.size := by have := x7.lt; omega
  have hg9 : Hid (w1.heap.size ≤ W3.heap.size) := hb3.out.size
  replace x7 := x7.below hal
  have hb4 := Lib.hid (bgo hb3.out hal)
  replace hr := Lib.hid hr
  clear hds hal hb3 hrv
  go_upto_region 7 with (fail)
  generalize W3.alloc (.cells #[.int .i64 ra, .int .i64 rb] 28) = W4 at *
  generalize W3.heap.size = g9 at *
  clear c0 c1
  replace x7 := Lib.hid x7
  replace x9 := Lib.hid x9
  replace hne := Lib.hid hne
  go_wp2_with fail
  go_loopw [10] (fun i wr => ∃ (k : Nat) (lo hi : Int), F ≤ k ∧ k ≤ ls.length ∧ i = .int .i64 k ∧ Hid (HR ls F k lo hi) ∧ Hid (Box wr g9 28 [.int .i64 lo, .int .i64 hi]) ∧ Hid (Box wr g7 28 [.int .i64 a, .int .i64 b]) ∧ Hid (Below w1.heap.size w1 wr)) (fun i _ => ls.length - (intOf i).toNat)
  case atStart => exact ⟨F, ra, rb, by omega, by omega, rfl, hH0, x9, x7, hb4⟩
  case round =>
    clear x7 x9
    obtain ⟨k, lo, hi, hFk, hk, rfl, hH, x9, x7, hb⟩ := hrel
    by_cases hlt : k < ls.length
    · obtain ⟨bb', oo', e9, hbB', hds⟩ := SeesS.at_ (SeesS.below hss.out hb.out) (by omega)
      cases e9
      obtain ⟨r, hr⟩ : ∃ r, ls[k]? = some r := ⟨_, List.getElem?_eq_getElem hlt⟩
      obtain ⟨c0, c1⟩ := hds k r hr
      obtain ⟨sa, sb⟩ := r
      dsimp only at c0 c1
      obtain ⟨k0, k1, k2, k3⟩ := box2_cells x9.out
      have j0 : (k : Int) < (ls.length : Int) := by omega
      have j1 : (0 : Int) ≤ (k : Int) := by omega
      have hKb : Hid (bb < w1.heap.size) := hbB'
      replace hr := Lib.hid hr
      clear hds
      have hHn : Hid (HR ls F (k + 1) (min lo sa) (max hi sb)) := HR.step hH.out hr.out rfl rfl
      have z9 : Hid (Box (((wr.setCell ⟨g9, 0, none⟩ (.int .i64 (min lo sa))).setCell ⟨g9, 1, none⟩ (.int .i64 (max hi sb))).drew) g9 28 [.int .i64 (min lo sa), .int .i64 (max hi sb)]) := (box_set2 x9.out _ _).below (bdrew _)
      have z7 : Hid (Box (((wr.setCell ⟨g9, 0, none⟩ (.int .i64 (min lo sa))).setCell ⟨g9, 1, none⟩ (.int .i64 (max hi sb))).drew) g7 28 [.int .i64 a, .int .i64 b]) := ((x7.out.other hne.out).other hne.out).below (bdrew _)
      have zb : Hid (Below w1.heap.size w1 (((wr.setCell ⟨g9, 0, none⟩ (.int .i64 (min lo sa))).setCell ⟨g9, 1, none⟩ (.int .i64 (max hi sb))).drew)) := bgo (below_set2 hb.out hg9.out _ _) (bdrew _)
      go_upto_region 10 with (fail)
      go_big_region
      all_goals
        go_wp2_with fail
        exact ⟨⟨k + 1, _, _, by omega, by omega, by go_num, hHn, z9, z7, zb⟩, by simp [intOf]; omega⟩
    · have j0 : ¬ (k : Int) < (ls.length : Int) := by omega
      have hke : Hid (k = ls.length) := by show _ = _; omega
      go_wp2_with fail
      refine (hkn.out _).mono ?_
      rintro e w5 ⟨rfl, hbk⟩
      have y7 := x7.out.below hbk
      have y9 := x9.out.below hbk
      have hbn := Lib.hid (bgo hb.out hbk)
      have hins := Lib.hid (fun W => rinside_any a b lo hi W)
      have q3 : inS a b lo hi = true := HR.inside hsrc.out rfl hke.out hH.out hh.out hv.out
      rw [q3] at hins
      obtain ⟨p0, p1⟩ := boxT2 y7
      obtain ⟨p2, p3⟩ := boxT2 y9
      clear q3 hbk y7 y9
      dsimp only
      go_wp2_with fail
      refine (hins.out _).mono ?_
      rintro e w6 ⟨rfl, hb6⟩
      replace hb6 := Lib.hid hb6
      dsimp only
      go_wp2_with fail
      go_returns
      exact ⟨rfl, bgo hb1.out (bgo hbn.out hb6.out)⟩
end Go.Proofs.Ytiiaghmdajdbbaa

/- The walk of the statement QuorumWidensWithLiars: it returns true. Conditions: the numbers are seen. -/
import Derived.Test.YtiiaghmdajdbbaaQ2
import Derived.Test.YtiiaghmdajdbbaaQZ
import Derived.BigRegion
namespace Go.Proofs.Ytiiaghmdajdbbaa
open Go Go.RowKit
set_option linter.unusedVariables false
set_option linter.unusedSimpArgs false
attribute [local go_sem ↓] Go.wp_at_zero Go.wp_at_succ
theorem row_poke {w : World} {base g n c j size : Nat} {T : TypeId} {xs : List Value} (y : Value) (h : w.ownsRow base T size (.slice (some ⟨g, 0, none⟩) n c) n xs) : (w.setCell ⟨g, j, none⟩ y).ownsRow base T size (.slice (some ⟨g, 0, none⟩) n c) n (xs.set j y) := by
  refine ⟨by rw [List.length_set]; exact h.1, ?_⟩
  rcases h.2 with ⟨e, -⟩ | ⟨g', cap, cur, e1, e2, e3, e4, e5, e6, e7⟩
  · cases e
  · injection e1 with h1 h2 h3
    injection h1 with h1
    injection h1 with h1
    subst h1 h3
    exact .inr ⟨g, c, cur.setIfInBounds j y, rfl, e2, set_block w g j y e3, e4, e5, by simp [e6], by rw [Array.toList_setIfInBounds, List.take_set, e7]⟩
theorem spV_set2 (l : List Sp) : ∀ (j : Nat) (s : Sp), ((spV l).set (j * 2) (.int .i64 s.1)).set (j * 2 + 1) (.int .i64 s.2) = spV (l.set j s) := by
  induction l with
  | nil => intro j s; rfl
  | cons a l ih =>
    intro j s
    cases j with
    | zero => rfl
    | succ j =>
      rw [spV_cons, show (j + 1) * 2 = j * 2 + 1 + 1 by omega, List.set_cons_succ, List.set_cons_succ, List.set_cons_succ, List.set_cons_succ, ih, List.set_cons_succ, spV_cons]
theorem spV_one (l : List Sp) : ∀ u ∈ spV l, u.oneCell' = true := by
  intro u hu
  obtain ⟨s, -, hs⟩ := List.mem_flatMap.1 hu
  simp at hs
  rcases hs with rfl | rfl <;> rfl
theorem own_swap {w : World} {base g z c i k : Nat} {ol : List Sp} {a b : Sp} (hz : z = 0) (h : OwnS w base (.slice (some ⟨g, z, none⟩) ol.length c) ol) : OwnS ((((w.setCell ⟨g, z + i * 2, none⟩ (.int .i64 b.1)).setCell ⟨g, z + i * 2 + 1, none⟩ (.int .i64 b.2)).setCell ⟨g, z + k * 2, none⟩ (.int .i64 a.1)).setCell ⟨g, z + k * 2 + 1, none⟩ (.int .i64 a.2)) base (.slice (some ⟨g, z, none⟩) ol.length c) ((ol.set i b).set k a) := by
  subst hz
  have h4 := row_poke (j := k * 2 + 1) (.int .i64 a.2) (row_poke (j := k * 2) (.int .i64 a.1) (row_poke (j := i * 2 + 1) (.int .i64 b.2) (row_poke (j := i * 2) (.int .i64 b.1) h)))
  rw [spV_set2, spV_set2] at h4
  unfold OwnS
  rw [List.length_set, List.length_set, Nat.zero_add, Nat.zero_add]
  exact h4
/-- After the first of the two stores all cells of the row are there. -/
theorem half_cells {w : World} {base g z c i k : Nat} {ol : List Sp} {b : Sp} (hz : z = 0) (hk : k < ol.length) (h : OwnS w base (.slice (some ⟨g, z, none⟩) ol.length c) ol) : ∃ s : Sp, ((w.setCell ⟨g, z + i * 2, none⟩ (.int .i64 b.1)).setCell ⟨g, z + i * 2 + 1, none⟩ (.int .i64 b.2)).cell? ⟨g, z + k * 2, none⟩ = some (.int .i64 s.1) ∧ ((w.setCell ⟨g, z + i * 2, none⟩ (.int .i64 b.1)).setCell ⟨g, z + i * 2 + 1, none⟩ (.int .i64 b.2)).cell? ⟨g, z + k * 2 + 1, none⟩ = some (.int .i64 s.2) := by
  subst hz
  have h4 := row_poke (j := i * 2 + 1) (.int .i64 b.2) (row_poke (j := i * 2) (.int .i64 b.1) h)
  rw [spV_set2] at h4
  have h5 : OwnS ((w.setCell ⟨g, 0 + i * 2, none⟩ (.int .i64 b.1)).setCell ⟨g, 0 + i * 2 + 1, none⟩ (.int .i64 b.2)) base (.slice (some ⟨g, 0, none⟩) ol.length c) (ol.set i b) := by
    unfold OwnS
    rw [List.length_set, Nat.zero_add]
    exact h4
  obtain ⟨b', o', e, -, hds⟩ := SeesS.at_ h5.sees (by rw [List.length_set]; omega)
  injection e with e; injection e with e1 e2
  subst e1 e2
  exact ⟨_, hds k _ (List.getElem?_eq_getElem (by rw [List.length_set]; exact hk))⟩
theorem swap_perm {ol : List Sp} {i k : Nat} {a b : Sp} (hi : ol[i]? = some a) (hk : ol[k]? = some b) : ((ol.set i b).set k a).Perm ol := by
  obtain ⟨q1, e1⟩ := List.getElem?_eq_some_iff.1 hi
  obtain ⟨q2, e2⟩ := List.getElem?_eq_some_iff.1 hk
  rw [← e1, ← e2]
  exact List.set_set_perm q1 q2
theorem below_set4 {w W : World} {B g o1 o2 o3 o4 : Nat} {x1 x2 x3 x4 : Value} (h : Below B w W) (hg : B ≤ g) : Below B w ((((W.setCell ⟨g, o1, none⟩ x1).setCell ⟨g, o2, none⟩ x2).setCell ⟨g, o3, none⟩ x3).setCell ⟨g, o4, none⟩ x4) :=
  (((h.setCell (p := ⟨g, o1, none⟩) hg _).setCell (p := ⟨g, o2, none⟩) hg _).setCell (p := ⟨g, o3, none⟩) hg _).setCell (p := ⟨g, o4, none⟩) hg _
/-- What the statement asks: one more liar, and Needed. -/
theorem widens {ls : List Sp} {k n c : Int} {o1 o2 : Option Sp} (hok : okV ls = true) (k0 : 0 ≤ k) (h1 : AgO ls k o1) (h2 : AgO ls (k + 1) o2) (hn : NeedR ls n c) :
    (agC ls k o1 ≠ 0 ∧ agC ls k o1 ≠ 21) ∨
    (agC ls k o1 = 0 ∧ agC ls (k + 1) o2 = 0 ∧ inS (o1.getD (0, 0)).1 (o1.getD (0, 0)).2 (o2.getD (0, 0)).1 (o2.getD (0, 0)).2 = true ∧ c = 0 ∧ n ≤ k) ∨
    (agC ls k o1 = 0 ∧ agC ls (k + 1) o2 ≠ 0 ∧ agC ls (k + 1) o2 ≠ 21 ∧ c = 0 ∧ n ≤ k) ∨
    (agC ls k o1 = 21 ∧ c ≠ 0) ∨ (agC ls k o1 = 21 ∧ c = 0 ∧ k < n) := by
  have hq4 : ∀ f, qchkC ls f ≠ 0 → qchkC ls f = 4 := fun f h => by
    unfold qchkC at h ⊢
    rw [if_pos hok] at h ⊢
    split
    · rw [if_pos (by assumption)] at h; exact absurd rfl h
    · rfl
  unfold AgO at h1 h2
  by_cases hq : qchkC ls k = 0
  · have hkk := qchk_ok hq
    rw [if_pos hq] at h1
    have hc1 : agC ls k o1 = if o1.isSome then 0 else 21 := by unfold agC; rw [if_pos hq]
    cases o1 with
    | none =>
      have e : agC ls k none = 21 := hc1
      rcases hn with ⟨k1, k2, k3⟩ | ⟨k1, k2, k3, k4, ⟨r, k5⟩, k6⟩ | ⟨k1, k2, k3, k4⟩
      · exact .inr (.inr (.inr (.inl ⟨e, by rw [k3]; exact k1⟩)))
      · refine .inr (.inr (.inr (.inr ⟨e, k2, ?_⟩)))
        rcases Int.lt_or_le k n with h | h
        · exact h
        · have a1 := k5.1
          have a2 := h1 r.1
          omega
      · exact .inr (.inr (.inr (.inl ⟨e, by omega⟩)))
    | some s =>
      have e : agC ls k (some s) = 0 := hc1
      obtain ⟨f1, f2⟩ := NeedR.found hn hok k0 hkk.2.2 h1
      by_cases hq2 : qchkC ls (k + 1) = 0
      · rw [if_pos hq2] at h2
        have hkk2 := qchk_ok hq2
        obtain ⟨s2, rfl, -, -⟩ := hull_some (t := s.1) h2 (by have := h1.1; omega)
        have e2 : agC ls (k + 1) (some s2) = 0 := by unfold agC; rw [if_pos hq2]; rfl
        refine .inr (.inl ⟨e, e2, ?_, f1, f2⟩)
        have v1 := hull_vS hok (by omega) h1
        have v2 := hull_vS hok (by omega) h2
        have b1 := (h2.2.2 s.1 (by have := h1.1; omega)).1
        have b2 := (h2.2.2 s.2 (by have := h1.2.1; omega)).2
        show inS s.1 s.2 s2.1 s2.2 = true
        unfold inS
        rw [v1, v2, decide_eq_true b1, decide_eq_true b2]; rfl
      · have e2 : agC ls (k + 1) o2 = 4 := by unfold agC; rw [if_neg hq2]; exact hq4 _ hq2
        exact .inr (.inr (.inl ⟨e, by omega, by omega, f1, f2⟩))
  · have e : agC ls k o1 = 4 := by unfold agC; rw [if_neg hq]; exact hq4 _ hq
    exact .inl ⟨by omega, by omega⟩
set_option maxRecDepth 100000 in
set_option maxHeartbeats 8000000 in
theorem widens_law (B0 : Nat) (v0 : Value) (l : List Int) (w : World) (s0 : SeesT w B0 v0 l) (hB0 : B0 ≤ w.heap.size) (B1 : Nat) (v1 : Value) (perm : List Int) (s1 : SeesT w B1 v1 perm) (hB1 : B1 ≤ w.heap.size) (f : Int) (wf : (Lit.int .u8 f).wf = true) :
    Calls Try.prog 7 #[v0, v1, .int .u8 f] w fun e w' => e = .returned (.bool true) ∧ Below w.heap.size w w' := by
  have hs0 : SeesT w w.heap.size v0 l := Sees.more s0 hB0
  have hs1 : Hid (SeesT w w.heap.size v1 perm) := Sees.more s1 hB1
  have hfb := bounds_u8 wf
  obtain ⟨f0, f1⟩ := hfb
  have hkn := Lib.hid (fun W => known_any W)
  have hnew := Lib.hid (tnew_any v0 l w hs0)
  obtain ⟨A0, c0, rfl, -, -⟩ := hs0.mk_
  obtain ⟨A1, c1, rfl, -, -⟩ := hs1.out.mk_
  have r1 := Int.emod_nonneg f (show (5 : Int) ≠ 0 by omega)
  have r2 := Int.emod_lt_of_pos f (show (0 : Int) < 5 by omega)
  obtain ⟨ti, hti, htz, hts, htb⟩ := info_parts span_info
  replace hti := Lib.hid hti
  replace htz := Lib.hid htz
  replace hts := Lib.hid hts
  replace htb := Lib.hid htb
  clear s0 s1 hs0
  go_enter Try.func7, Try.ntmps7
  go_wp2_with fail
  refine hnew.out.mono ?_
  rintro e wa ⟨rfl, ht, hba, hgl⟩
  have hsp := Lib.hid (kspans_any _ _ l 0 12 20 wa ht (by omega) (by omega) (by omega))
  replace hba := Lib.hid hba
  clear ht hnew
  dsimp only
  go_wp2_with fail
  refine hsp.out.mono ?_
  rintro e w1 ⟨vs, ls, rfl, ho, hl12, hok, hgb⟩
  obtain ⟨Al, cl, rfl, -, -⟩ := (Sees.of_own ho).mk_
  have hsl : Hid (SeesS w1 w1.heap.size (.slice Al ls.length cl) ls) := Sees.of_own ho
  have hbb : Hid (Below w.heap.size w w1) := hba.out.trans ⟨hgb.os, hgb.tape, hgb.output, hgb.size, fun k hk => hgb.block k (by omega) (fun e => by have := Option.some.inj e; omega)⟩
  replace hok := Lib.hid hok
  clear ho hgb hsp hba hgl
  have hnil : Hid (w1.ownsRow w1.heap.size 28 2 (.slice none 0 0) 0 []) := World.ownsRow_nil _ _ _ _
  dsimp only
  go_wp2_with (at_builtin; refine wpList_append_sees (by rfl) _ _ 24 rfl w1.heap.size 28 ti _ 2 16 Try.underlying24 hti.out htz.out hts.out htb.out rfl (by omega) _ 0 _ rfl hnil.out _ _ ls.length _ rfl hsl.out ?_ (by unfold maxLen; omega) (by omega) (Nat.le_refl _) ?_)
  · exact spV_one ls
  intro v2 w2 ho2 hg2 _
  have hb12 : Hid (Below w1.heap.size w1 w2) := ⟨hg2.os, hg2.tape, hg2.output, hg2.size, fun k hk => hg2.block k hk (by simp [Value.ownBlock])⟩
  replace ho2 : Hid (OwnS w2 w1.heap.size v2 ls) := ho2
  obtain ⟨Ao, co, rfl, -, -⟩ := (Sees.of_own ho2.out).mk_
  have hnew := Lib.hid (tnew_any _ perm w2 ((Sees.below hs1.out (bgo hbb.out hb12.out)).more (bgo hbb.out hb12.out).size))
  clear hg2 hnil hti htz hts htb ti
  go_wp2_with fail
  refine hnew.out.mono ?_
  rintro e w3 ⟨rfl, ht, hb23, hg⟩
  have hlt : Hid (∀ j, (Value.slice Ao ls.length co).ownBlock = some j → w1.heap.size ≤ j ∧ j < w2.heap.size) := fun j hj => ho2.out.lt j hj
  have hb13 := Lib.hid (bgo hb12.out hb23)
  have hz2 : Hid (w1.heap.size ≤ w2.heap.size) := hb12.out.size
  replace ho2 := Lib.hid (OwnS.below ho2.out hb23)
  have x2 := Lib.hid ht.1
  clear hb23 hb12 ht hnew
  generalize w2.heap.size = g2 at *
  dsimp only
  go_wp2_with fail
  go_loopw [10] (fun i wr => ∃ (m j : Nat) (ol : List Sp), m ≤ ls.length ∧ i = .int .i64 m ∧ j ≤ perm.length ∧ Hid (ol.length = ls.length) ∧ Hid (ol.Perm ls) ∧ Hid (OwnS wr w1.heap.size (.slice Ao ls.length co) ol) ∧ Hid (Box wr g2 56 [.slice A1 perm.length c1, .int .i64 j]) ∧ Hid (Below w1.heap.size w1 wr)) (fun i _ => ls.length - (intOf i).toNat)
  case atStart => exact ⟨0, 0, ls, by omega, rfl, by omega, rfl, List.Perm.refl _, ho2, x2, hb13⟩
  case round =>
    clear ho2 x2 hb13
    obtain ⟨m, j, ol, hm, rfl, hj, hol, hpe, ho, x2, hb⟩ := hrel
    by_cases hlm : m < ls.length
    · have j0 : (m : Int) < (ls.length : Int) := by omega
      have hta : TapeAt wr g2 (.slice A1 perm.length c1) perm j := ⟨x2.out, (Sees.below hs1.out (bgo hbb.out hb.out)).more (Nat.le_trans hbb.out.size hz2.out), hj⟩
      have hin := tint_any g2 _ perm j (ls.length : Int) wr hta (by omega) (by omega)
      have q1 := Int.emod_nonneg (perm.getD j 0) (show (ls.length : Int) ≠ 0 by omega)
      have q2 := Int.emod_lt_of_pos (perm.getD j 0) (show 0 < (ls.length : Int) by omega)
      obtain ⟨K, hK⟩ := Int.eq_ofNat_of_zero_le q1
      rw [hK] at hin q2
      have hjk := stepK_le hj
      replace hin := Lib.hid hin
      replace hK := Lib.hid hK
      clear hta q1
      have j1 : (0 : Int) ≤ (m : Int) := by omega
      have j2 : (0 : Int) ≤ (K : Int) := by omega
      go_upto_region 7 with (fail)
      go_wp2_with fail
      refine hin.out.mono ?_
      rintro e w4 ⟨rfl, t4, g4⟩
      have hb4 : Hid (Below w1.heap.size w1 w4) := hb.out.trans ⟨g4.os, g4.tape, g4.output, g4.size, fun k hk => g4.block k (Nat.lt_of_lt_of_le hk hb.out.size) (fun e => by have := Option.some.inj e; have := hz2.out; omega)⟩
      have ho4 : OwnS w4 w1.heap.size (.slice Ao ls.length co) ol := ho.out.kept g4 (.inr (fun e => by have := (hlt.out _ e).2; omega))
      have y2 := Lib.hid t4.1
      obtain ⟨bb, oo, e9, hbB, hds⟩ := SeesS.at_ ho4.sees (by have := hol.out; omega)
      subst e9
      have hz0 : oo = 0 := by
        rcases ho4.2 with ⟨e, -⟩ | ⟨g', cap, cur, e1, -⟩
        · cases e
        · injection e1 with e1; injection e1 with e1; injection e1
      obtain ⟨a, ha⟩ : ∃ a, ol[m]? = some a := ⟨_, List.getElem?_eq_getElem (by have := hol.out; omega)⟩
      obtain ⟨b, hb'⟩ : ∃ b, ol[K]? = some b := ⟨_, List.getElem?_eq_getElem (by have := hol.out; omega)⟩
      obtain ⟨n0, n1⟩ := hds m a ha
      obtain ⟨n2, n3⟩ := hds K b hb'
      obtain ⟨hbb1, hbb2⟩ := hlt.out bb rfl
      have hbx : ∃ cs : Array Value, w4.heap[bb]? = some (.cells cs 28) := by
        rcases ho4.2 with ⟨e, -⟩ | ⟨g', cap, cur, e1, -, e3, -⟩
        · cases e
        · injection e1 with e1; injection e1 with e1; injection e1 with e1; subst e1; exact ⟨_, e3⟩
      obtain ⟨cs, hcs⟩ := hbx
      have fr : ∀ o, w4.frozen? ⟨bb, o, none⟩ = false := fun o => frozen_of_row w4 bb o _ _ hcs
      have p0 := fr (oo + m * 2)
      have p1 := fr (oo + m * 2 + 1)
      have p2 := fr (oo + K * 2)
      have p3 := fr (oo + K * 2 + 1)
      have hpn := Lib.hid ((swap_perm ha hb').trans hpe.out)
      have hne2 : Hid (g2 ≠ bb) := by show _ ≠ _; omega
      have hol2 : ol.length = ls.length := hol.out
      rw [← hol2] at ho4
      obtain ⟨sx, n4, n5⟩ := half_cells (i := m) (k := K) (b := b) hz0 (by omega) ho4
      have hon := own_swap (i := m) (k := K) (a := a) (b := b) hz0 ho4
      rw [hol2] at hon
      have hbn := Lib.hid (below_set4 (o1 := oo + m * 2) (o2 := oo + m * 2 + 1) (o3 := oo + K * 2) (o4 := oo + K * 2 + 1) (x1 := .int .i64 b.1) (x2 := .int .i64 b.2) (x3 := .int .i64 a.1) (x4 := .int .i64 a.2) hb4.out hbb1)
      have hln : Hid (((ol.set m b).set K a).length = ls.length) := by show _ = _; rw [List.length_set, List.length_set]; exact hol2
      have xn := Lib.hid ((((y2.out.other (j := oo + m * 2) (v := .int .i64 b.1) hne2.out).other (j := oo + m * 2 + 1) (v := .int .i64 b.2) hne2.out).other (j := oo + K * 2) (v := .int .i64 a.1) hne2.out).other (j := oo + K * 2 + 1) (v := .int .i64 a.2) hne2.out)
      replace hon := Lib.hid hon
      obtain ⟨a1, a2⟩ := a
      obtain ⟨b1, b2⟩ := b
      dsimp only at n0 n1 n2 n3 n4 n5 hon hbn xn
      replace ha := Lib.hid ha
      replace hb' := Lib.hid hb'
      replace hol2 := Lib.hid hol2
      replace hbb1 := Lib.hid hbb1
      clear hcs fr hds ho4 y2 hb4 t4 g4 hz0 hin hpe hol ho x2 hb
      dsimp only
      replace hon := Lib.hid (hon.out.below (bdrew _))
      replace hbn := Lib.hid (bgo hbn.out (bdrew _))
      replace xn := Lib.hid (xn.out.below (bdrew _))
      replace hlt := hlt
      go_upto_region 8 with (fail)
      go_big_region
      all_goals
        go_wp2_with fail
        exact ⟨⟨m + 1, _, _, by omega, by go_num, hjk, hln, hpn, hon, xn, hbn⟩, by simp [intOf]; omega⟩
    · obtain rfl : m = ls.length := by omega
      have j0 : ¬ (ls.length : Int) < (ls.length : Int) := by omega
      have hso : Hid (SeesS wr wr.heap.size (.slice Ao ls.length co) ol) := Sees.of_own ho.out
      have hss : Hid (SeesS wr w1.heap.size (.slice Al ls.length cl) ls) := SeesS.below hsl.out hb.out
      have hzr : Hid (w1.heap.size ≤ wr.heap.size) := hb.out.size
      have hok2 := hok.out
      have hol12 : ol.length ≤ 64 := by have := hol.out; omega
      replace hbb := Lib.hid (bgo hbb.out hb.out)
      clear hsl ho x2 hb hlt hz2 hs1 hj hm hg
      go_upto_region 10 with (fail)
      generalize f % 5 = k at *
      have hag := Lib.hid (qagree_any w1.heap.size _ ls k wr hss.out hzr.out (by omega))
      go_wp2_with fail
      refine hag.out.mono ?_
      rintro e W1 ⟨o1, hao, rfl, hb1⟩
      generalize hlo : (o1.getD (0, 0)).1 = a at *
      generalize hhi : (o1.getD (0, 0)).2 = b at *
      generalize hce : agC ls k o1 = ce at *
      have x13 := Box.new W1 28 [.int .i64 a, .int .i64 b]
      change Box (W1.alloc (.cells #[.int .i64 a, .int .i64 b] 28)) _ _ _ at x13
      have hal := balloc W1 (.cells #[.int .i64 a, .int .i64 b] 28)
      replace hb1 := Lib.hid (bgo hb1 hal)
      replace hao := Lib.hid hao
      replace hlo := Lib.hid hlo
      replace hhi := Lib.hid hhi
      replace hce := Lib.hid hce
      clear hag hal
      go_upto_region 11 with (fail)
      generalize W1.alloc (.cells #[.int .i64 a, .int .i64 b] 28) = W2 at *
      generalize W1.heap.size = g13 at *
      have hag := Lib.hid (qagree_any wr.heap.size _ ol k W2 (SeesS.below hso.out hb1.out) hb1.out.size hol12)
      go_wp2_with fail
      refine hag.out.mono ?_
      rintro e W3 ⟨o', hao', rfl, hb3⟩
      obtain rfl := AgO.uniq (AgO.perm hpe.out hao') hao.out
      rw [agC_perm hpe.out, hce.out, hlo.out, hhi.out]
      have x15 := Box.new W3 28 [.int .i64 a, .int .i64 b]
      change Box (W3.alloc (.cells #[.int .i64 a, .int .i64 b] 28)) _ _ _ at x15
      have hal := balloc W3 (.cells #[.int .i64 a, .int .i64 b] 28)
      replace hb3 := bgo hb3 hal
      replace x13 := x13.below hb3
      replace hb1 := Lib.hid (bgo hb1.out hb3)
      clear hag hal hb3 hao' hso hol12
      go_upto_region 12 with (fail)
      generalize W3.alloc (.cells #[.int .i64 a, .int .i64 b] 28) = W4 at *
      generalize W3.heap.size = g15 at *
      have hk1 : IntKind.i64.wrap (k + 1) = k + 1 := by rw [IntKind.wrap_i64]; omega
      have hag := Lib.hid (qagree_any w1.heap.size _ ls (k + 1) W4 ((SeesS.below hss.out (hb1.out.mono hzr.out))) (Nat.le_trans hzr.out hb1.out.size) (by omega))
      go_wp2_with fail
      refine hag.out.mono ?_
      rintro e W5 ⟨o2, hao2, rfl, hb5⟩
      generalize hlo2 : (o2.getD (0, 0)).1 = c at *
      generalize hhi2 : (o2.getD (0, 0)).2 = d at *
      generalize hce2 : agC ls (k + 1) o2 = ch at *
      have x17 := Box.new W5 28 [.int .i64 c, .int .i64 d]
      change Box (W5.alloc (.cells #[.int .i64 c, .int .i64 d] 28)) _ _ _ at x17
      have hal := balloc W5 (.cells #[.int .i64 c, .int .i64 d] 28)
      replace hb5 := bgo hb5 hal
      replace x13 := x13.below hb5
      replace x15 := x15.below hb5
      replace hb1 := Lib.hid (bgo hb1.out hb5)
      replace hao2 := Lib.hid hao2
      replace hlo2 := Lib.hid hlo2
      replace hhi2 := Lib.hid hhi2
      replace hce2 := Lib.hid hce2
      clear hag hal hb5 hk1
      go_upto_region 13 with (fail)
      generalize W5.alloc (.cells #[.int .i64 c, .int .i64 d] 28) = W6 at *
      generalize W5.heap.size = g17 at *
      have hne := Lib.hid (need_any w1.heap.size _ ls W6 ((SeesS.below hss.out (hb1.out.mono hzr.out))) (Nat.le_trans hzr.out hb1.out.size) (by omega))
      go_wp2_with fail
      refine hne.out.mono ?_
      rintro e W7 ⟨nn, cn, rfl, hnr, hb7⟩
      have hcs := widens hok2 r1 hao.out hao2.out hnr
      rw [hce.out, hce2.out, hlo.out, hhi.out, hlo2.out, hhi2.out] at hcs
      replace x13 := x13.below hb7
      replace x15 := x15.below hb7
      replace x17 := x17.below hb7
      replace hb1 := Lib.hid (bgo hb1.out hb7)
      obtain ⟨z0, z1⟩ := boxT2 x13
      obtain ⟨z2, z3⟩ := boxT2 x15
      obtain ⟨z4, z5⟩ := boxT2 x17
      have hins := Lib.hid (fun W => rinside_any a b c d W)
      clear hne hnr hb7 x13 x15 x17 hao hao2 hlo hhi hlo2 hhi2 hce hce2 hok2 hss hzr hol hpe hok
      dsimp only
      go_upto_region 14 with (fail)
      rcases hcs with ⟨h1, h2⟩ | ⟨rfl, rfl, h3, rfl, h4⟩ | ⟨rfl, h2, h3, rfl, h4⟩ | ⟨rfl, h2⟩ | ⟨rfl, rfl, h4⟩
      · have i0 : (ce == 0) = false := by simpa using h1
        have i1 : (ce != 21) = true := by simpa using h2
        go_wp2_with fail
        refine (hkn.out _).mono ?_
        rintro e w7 ⟨rfl, hb7⟩
        replace hb7 := Lib.hid hb7
        dsimp only
        go_wp2_with fail
        go_ret
        exact ⟨rfl, bgo hbb.out (bgo hb1.out hb7.out)⟩
      · rw [h3] at hins
        have i2 : ¬ k < nn := by omega
        go_wp2_with fail
        refine (hins.out _).mono ?_
        rintro e w8 ⟨rfl, hb8⟩
        replace hb8 := Lib.hid hb8
        dsimp only
        go_wp2_with fail
        refine (hkn.out _).mono ?_
        rintro e w7 ⟨rfl, hb7⟩
        replace hb7 := Lib.hid hb7
        dsimp only
        go_wp2_with fail
        go_ret
        exact ⟨rfl, bgo hbb.out (bgo hb1.out (bgo hb8.out hb7.out))⟩
      · have i0 : (ch == 0) = false := by simpa using h2
        have i1 : (ch == 21) = false := by simpa using h3
        have i2 : ¬ k < nn := by omega
        go_wp2_with fail
        refine (hkn.out _).mono ?_
        rintro e w7 ⟨rfl, hb7⟩
        replace hb7 := Lib.hid hb7
        dsimp only
        go_wp2_with fail
        go_ret
        exact ⟨rfl, bgo hbb.out (bgo hb1.out hb7.out)⟩
      · have i0 : (cn != 0) = true := by simpa using h2
        go_wp2_with fail
        refine (hkn.out _).mono ?_
        rintro e w7 ⟨rfl, hb7⟩
        replace hb7 := Lib.hid hb7
        dsimp only
        go_wp2_with fail
        go_ret
        exact ⟨rfl, bgo hbb.out (bgo hb1.out hb7.out)⟩
      · go_wp2_with fail
        refine (hkn.out _).mono ?_
        rintro e w7 ⟨rfl, hb7⟩
        replace hb7 := Lib.hid hb7
        dsimp only
        go_wp2_with fail
        go_ret
        exact ⟨rfl, bgo hbb.out (bgo hb1.out hb7.out)⟩
end Go.Proofs.Ytiiaghmdajdbbaa

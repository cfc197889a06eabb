/- Contract of sectimeref34.cuts; what its rounds do to a profile (plain). Conditions: the spans are seen, valid, at most 64. -/
import Derived.Test.YtiiaghmdajdbbaaQJ
import Derived.Test.YtiiaghmdajdbbaaQE
namespace Go.Proofs.Ytiiaghmdajdbbaa
open Go.RowKit
set_option linter.unusedVariables false
set_option linter.unusedSimpArgs false
attribute [local go_sem ↓] Go.wp_at_zero Go.wp_at_succ
/-- The instants at which the number of spans can change. -/
structure Cuts (l : List Sp) (c : List Int) : Prop where
  asc : c.Pairwise (· < ·)
  mem : ∀ x, x ∈ c ↔ ∃ e ∈ evs l, x = e.1
section
variable {l : List Sp} {c : List Int} {k : Nat} {t x y : Int} {ps ini : List (Int × Int × Int)} {q : Int × Int × Int}
theorem sumTo_congr (d : List (Int × Int)) {t t' : Int} (h : ∀ e ∈ d, e.1 ≤ t ↔ e.1 ≤ t') : sumTo d t = sumTo d t' := by
  unfold sumTo
  congr 1
  refine List.map_congr_left fun e he => ?_
  by_cases h1 : e.1 ≤ t
  · rw [if_pos h1, if_pos ((h e he).1 h1)]
  · rw [if_neg h1, if_neg (fun h2 => h1 ((h e he).2 h2))]
theorem Cuts.at_le (h : Cuts l c) {j : Nat} (hj : c[j]? = some x) (hk : c[k]? = some y) (hjk : j ≤ k) : x ≤ y := by
  obtain ⟨h1, rfl⟩ := List.getElem?_eq_some_iff.1 hj
  obtain ⟨h2, rfl⟩ := List.getElem?_eq_some_iff.1 hk
  rcases Nat.lt_or_ge j k with h3 | h3
  · exact Int.le_of_lt (List.pairwise_iff_getElem.1 h.asc j k h1 h2 h3)
  · obtain rfl : j = k := by omega
    exact Int.le_refl _
theorem Cuts.at_lt (h : Cuts l c) {j : Nat} (hj : c[j]? = some x) (hk : c[k]? = some y) (hjk : j < k) : x < y := by
  obtain ⟨h1, rfl⟩ := List.getElem?_eq_some_iff.1 hj
  obtain ⟨h2, rfl⟩ := List.getElem?_eq_some_iff.1 hk
  exact List.pairwise_iff_getElem.1 h.asc j k h1 h2 hjk
theorem Cuts.first (h : Cuts l c) (hv : okV l = true) (hx : c[0]? = some x) (ht : t < x) : cnt l t = 0 := by
  have := sumTo_evs (okV_le hv) t
  rw [sumTo_none (fun e he => by
    obtain ⟨j, hj⟩ := List.getElem?_of_mem ((h.mem e.1).2 ⟨e, he, rfl⟩)
    have := h.at_le hx hj (Nat.zero_le _)
    omega)] at this
  omega
theorem Cuts.mid (h : Cuts l c) (hv : okV l = true) (hx : c[k]? = some x) (hy : c[k + 1]? = some y) (h1 : x ≤ t) (h2 : t < y) : cnt l t = cnt l x := by
  have a := sumTo_evs (okV_le hv) t
  have b := sumTo_evs (okV_le hv) x
  rw [sumTo_congr (evs l) (t' := x) (fun e he => by
    obtain ⟨j, hj⟩ := List.getElem?_of_mem ((h.mem e.1).2 ⟨e, he, rfl⟩)
    constructor
    · intro h3
      rcases Nat.lt_or_ge k j with h4 | h4
      · have := h.at_le hy hj (by omega); omega
      · exact h.at_le hj hx h4
    · intro h3; omega), b] at a
  omega
theorem Cuts.last (h : Cuts l c) (hx : c[k]? = some x) (hk : k + 1 = c.length) (ht : x ≤ t) : cnt l t = 0 := by
  unfold cnt
  rw [List.countP_eq_zero]
  intro s hs
  unfold hol
  rw [decide_eq_true_iff]
  rintro ⟨-, h2⟩
  obtain ⟨j, hj⟩ := List.getElem?_of_mem ((h.mem (s.2 + 1)).2 ⟨(s.2 + 1, -1), by unfold evs; exact List.mem_flatMap.2 ⟨s, hs, by simp⟩, rfl⟩)
  have := h.at_le hj hx (by have := (List.getElem?_eq_some_iff.1 hj).1; omega)
  omega
theorem Cuts.bound (h : Cuts l c) (hv : okV l = true) : ∀ x ∈ c, -1152921504606846976 ≤ x ∧ x ≤ 1152921504606846977 := fun x hx => by
  obtain ⟨e, he, rfl⟩ := (h.mem x).1 hx
  exact (evs_each hv e he).2
theorem Cuts.ne (h : Cuts l c) (h0 : 0 < l.length) : 0 < c.length := by
  cases l with
  | nil => simp at h0
  | cons s l =>
    have := (h.mem s.1).2 ⟨(s.1, 1), by rw [evs_cons]; simp, rfl⟩
    exact List.length_pos_of_mem this
/-- The pieces found below cut k. -/
def CI (l : List Sp) (c : List Int) (k : Nat) (ps : List (Int × Int × Int)) : Prop := ∀ x, c[k]? = some x → PInv l x ps
theorem CI.start (h : Cuts l c) (hv : okV l = true) : CI l c 0 [] := fun x hx => PInv.start fun t ht => h.first hv hx ht
theorem CI.skip (h : Cuts l c) (hv : okV l = true) (hx : c[k]? = some x) (hy : c[k + 1]? = some y) (h0 : cnt l x = 0) (hi : CI l c k ps) : CI l c (k + 1) ps := fun z hz => by
  rw [hy] at hz
  obtain rfl := Option.some.inj hz
  exact (hi x hx).skip (h.at_le hx hy (by omega)) fun t t1 t2 => by rw [h.mid hv hx hy t1 t2]; exact h0
theorem CI.push (h : Cuts l c) (hv : okV l = true) (hx : c[k]? = some x) (hy : c[k + 1]? = some y) (hi : CI l c k ps) : CI l c (k + 1) (ps ++ [(x, y - 1, (cnt l x : Int))]) := fun z hz => by
  rw [hy] at hz
  obtain rfl := Option.some.inj hz
  exact (hi x hx).push (h.at_lt hx hy (by omega)) fun t t1 t2 => by rw [h.mid hv hx hy t1 t2]
theorem CI.join (h : Cuts l c) (hv : okV l = true) (hx : c[k]? = some x) (hy : c[k + 1]? = some y) (hq : q.2.1 + 1 = x) (hc : q.2.2 = (cnt l x : Int)) (hi : CI l c k (ini ++ [q])) : CI l c (k + 1) (ini ++ [(q.1, y - 1, q.2.2)]) := fun z hz => by
  rw [hy] at hz
  obtain rfl := Option.some.inj hz
  exact (hi x hx).join hq hc (h.at_lt hx hy (by omega)) fun t t1 t2 => by rw [h.mid hv hx hy t1 t2]
theorem CI.all (h : Cuts l c) (hk : k + 1 = c.length) (hi : CI l c k ps) : PAll l ps := by
  have hx := List.getElem?_eq_getElem (show k < c.length by omega)
  exact (hi _ hx).all fun t ht => h.last hx hk ht
end
theorem Cuts.step {l l' : List Sp} {c c1 c2 : List Int} {a b : Int} (h : Cuts l c) (he : evs l' = evs l ++ [(a, 1), (b, -1)]) (h1 : ∀ x, x ∈ c1 ↔ x ∈ c ∨ x = a) (h2 : ∀ x, x ∈ c2 ↔ x ∈ c1 ∨ x = b) (p : c2.Pairwise (· < ·)) : Cuts l' c2 := by
  refine ⟨p, fun x => ?_⟩
  rw [h2, h1, h.mem, he]
  constructor
  · rintro ((⟨e, he, rfl⟩ | rfl) | rfl)
    · exact ⟨e, List.mem_append_left _ he, rfl⟩
    · exact ⟨(x, 1), by simp, rfl⟩
    · exact ⟨(x, -1), by simp, rfl⟩
  · rintro ⟨e, he, rfl⟩
    rcases List.mem_append.1 he with he | he
    · exact .inl (.inl ⟨e, he, rfl⟩)
    · simp only [List.mem_cons, List.not_mem_nil, or_false] at he
      rcases he with rfl | rfl
      · exact .inl (.inr rfl)
      · exact .inr rfl
def CutsP (l : List Sp) (w : World) (e : Ending) (w' : World) : Prop := ∃ v c, e = .returned v ∧ Lit w' v c ∧ Cuts l c ∧ c.length ≤ 2 * l.length ∧ Below w.heap.size w w'
set_option maxRecDepth 100000 in
set_option maxHeartbeats 4000000 in
theorem cuts_any (B : Nat) (u : Value) (l : List Sp) (w : World) (hu : SeesS w B u l) (hB : B ≤ w.heap.size) (hn : l.length ≤ 64) (hok : okV l = true) :
    Calls Try.prog 65 #[u] w (CutsP l w) := by
  obtain ⟨A, c, rfl, -, -⟩ := hu.mk_
  replace hok := Lib.hid hok
  replace hu := Lib.hid hu
  go_enter Try.func65, Try.ntmps65
  go_wp2_with fail
  go_loopw [3, 4] (fun s i wr => ∃ (k : Nat) (cs : List Int), k ≤ l.length ∧ i = .int .i64 k ∧ cs.length ≤ 2 * k ∧ Hid (Lit wr s cs) ∧ Hid (Cuts (l.take k) cs) ∧ Hid (Below w.heap.size w wr)) (fun _ i _ => l.length - (intOf i).toNat)
  case atStart => exact ⟨0, [], by omega, rfl, by simp, Sees.nil _ _ _, ⟨List.Pairwise.nil, fun x => ⟨fun h => absurd h (by simp), fun ⟨e, he, _⟩ => absurd he (by simp [evs])⟩⟩, Below.refl _ _⟩
  case round =>
    obtain ⟨k, cs, hk, rfl, hcl, hs, hC, hb⟩ := hrel
    obtain ⟨As, cc, rfl, -, -⟩ := SeesI.mk_ hs.out
    by_cases hlt : k < l.length
    · obtain ⟨b, o, rfl, hbB, hds⟩ := SeesS.at_ (Sees.below hu.out (hb.out.mono hB)) (by omega)
      obtain ⟨s, hsk⟩ : ∃ s, l[k]? = some s := ⟨_, List.getElem?_eq_getElem hlt⟩
      obtain ⟨c0, c1⟩ := hds k s hsk
      have hv := okV_each hok.out s (List.mem_of_getElem? hsk)
      have hst := Lib.hid (evs_take hsk)
      have hK : Hid (∀ W, Below wr.heap.size wr W → W.cell? ⟨b, o + k * 2, none⟩ = some (.int .i64 s.1) ∧ W.cell? ⟨b, o + k * 2 + 1, none⟩ = some (.int .i64 s.2)) := fun W hW => by
        obtain ⟨b', o', e, -, hds'⟩ := SeesS.at_ (Sees.below hu.out ((bgo hb.out hW).mono hB)) (by omega)
        cases e
        exact hds' k s hsk
      obtain ⟨lo, hi⟩ := s
      unfold vS at hv
      rw [decide_eq_true_iff] at hv
      dsimp only at c0 c1 hst hv hK
      obtain ⟨v1, v2, v3⟩ := hv
      have i0 : (k : Int) < (l.length : Int) := by omega
      have i1 : (0 : Int) ≤ (k : Int) := by omega
      have e1 : IntKind.i64.wrap (hi + 1) = hi + 1 := by rw [IntKind.wrap_i64]; omega
      have hp1 : Hid (∀ W, Below wr.heap.size wr W → Calls Try.prog 75 #[.slice As cs.length cc, .int .i64 lo] W (PutP cs lo W)) := fun W hW => put_any _ _ cs lo W (Sees.below hs.out hW) hW.size (by omega) hC.out.asc
      replace hsk := Lib.hid hsk
      clear hds
      go_upto_region 5 with (fail)
      go_region_held3 (fun W => W.cell? ⟨b, o + k * 2, none⟩ = some (.int .i64 lo) ∧ W.cell? ⟨b, o + k * 2 + 1, none⟩ = some (.int .i64 hi)) (first | exact hK.out _ (by (repeat (first | exact Below.refl _ _ | (refine bgo ?_ (balloc _ _)) | (refine bgo ?_ (bdrew _)) | (refine bgo ?_ (by assumption))))))
        (first
          | ((with_reducible refine (hp1.out _ (by (repeat (first | exact Below.refl _ _ | (refine bgo ?_ (balloc _ _)) | (refine bgo ?_ (bdrew _)) | (refine bgo ?_ (by assumption)))))).mono ?_); rintro e w1 ⟨u1, l1, rfl, s1, p1, m1, n1, b1⟩; obtain ⟨A1, cx1, rfl, -, -⟩ := SeesI.mk_ s1)
          | ((with_reducible refine (put_any w1.heap.size _ l1 (hi + 1) w1 (Lit.sees s1) (Nat.le_refl _) (Nat.le_trans n1 (by omega)) p1).mono ?_); rintro e w2 ⟨u2, l2, rfl, s2, p2, m2, n2, b2⟩; obtain ⟨A2, cx2, rfl, -, -⟩ := SeesI.mk_ s2))
      have hC2 : Hid (Cuts (l.take (k + 1)) l2) := Cuts.step hC.out hst.out m1 m2 p2
      have hl2 : Hid (l2.length ≤ 2 * (k + 1)) := by show _ ≤ _; omega
      have hb2 : Hid (Below w.heap.size w w2) := bgo hb.out (bgo (bgo (bdrew _) b1) b2)
      replace s2 := Lib.hid s2
      rename_i hHeld
      clear hHeld c0 c1 p1 p2 n1 n2 m1 m2 b1 b2 s1 hp1 hK
      go_wp2_with fail
      go_roundw
      case rel => exact ⟨k + 1, l2, by omega, by go_num, hl2.out, s2, hC2, hb2⟩
      case measure => simp [intOf]; omega
    · have i0 : ¬ (k : Int) < (l.length : Int) := by omega
      rw [List.take_of_length_le (by omega)] at hC
      have hcl2 : Hid (cs.length ≤ 2 * l.length) := by show _ ≤ _; omega
      go_wp2_with fail
      go_returns
      exact ⟨_, cs, rfl, hs.out, hC.out, hcl2.out, hb.out⟩
end Go.Proofs.Ytiiaghmdajdbbaa

/- The walk of the statement EraNested: for every instant, width, cut and timestamp it returns true. -/
import Derived.Test.YtgdbfjfnjjmfmaaEraNear
import Derived.Test.YtgdbfjfnjjmfmaaSameSpans
namespace Go.Proofs.Ytgdbfjfnjjmfmaa
open Go.RowKit
theorem cellsOf_append (k a : Int) (n m : Nat) : cellsOf k a n ++ cellsOf (k + n) a m = cellsOf k a (n + m) := by
  induction m with
  | zero => simp [cellsOf]
  | succ m ih =>
    rw [← Nat.add_assoc, cellsOf, cellsOf, ← List.append_assoc, ih]
    rw [show k + (n : Int) + (m : Int) = k + ((n + m : Nat) : Int) from by omega]
theorem cellsOf_len (k a : Int) (n : Nat) : (cellsOf k a n).length = n * 2 := by
  induction n with
  | zero => rfl
  | succ n ih => simp [cellsOf, ih]; omega
theorem cellsOf_at (k a : Int) (n i : Nat) (h : i < n) : (cellsOf k a n)[i * 2]? = some (.int .i64 (lo_ (k + i) a)) ∧ (cellsOf k a n)[i * 2 + 1]? = some (.int .i64 (hi_ (k + i) a)) := by
  induction n with
  | zero => omega
  | succ n ih =>
    have hl := cellsOf_len k a n
    rcases Nat.lt_or_ge i n with h' | h'
    · obtain ⟨h1, h2⟩ := ih h'
      exact ⟨by rw [cellsOf, List.getElem?_append_left (by omega)]; exact h1, by rw [cellsOf, List.getElem?_append_left (by omega)]; exact h2⟩
    · obtain rfl : i = n := by omega
      exact ⟨by rw [cellsOf, List.getElem?_append_right (by omega), hl]; simp, by rw [cellsOf, List.getElem?_append_right (by omega), hl]; simp⟩
theorem cellsOf_one' (k a : Int) : cellsOf k a 1 = [.int .i64 (lo_ k a), .int .i64 (hi_ k a)] := by simp [cellsOf]
theorem cellsOf_drop (k a : Int) (n : Nat) : (cellsOf k a (n + 1)).drop (1 * 2) = cellsOf (k + 1) a n := by
  rw [Nat.add_comm, ← cellsOf_append, cellsOf_one']; rfl
theorem cellsOf_int (k a : Int) (n : Nat) : ∀ u ∈ cellsOf k a n, u.oneCell' = true := by
  induction n with
  | zero => simp [cellsOf]
  | succ n ih => intro u hu; simp only [cellsOf, List.mem_append, List.mem_cons, List.not_mem_nil, or_false] at hu; rcases hu with h | rfl | rfl; exact ih u h; rfl; rfl
/-- The last steps of the walk: what the two appends and the comparison give. -/
def Ends (w : World) (B : Nat) (x y : Value) (F a : Int) (n m : Nat) : Prop := Sees w B x 2 n (cellsOf F a n) ∧ Sees w B y 2 m (cellsOf (F + n) a m)
theorem nest_facts {t p c a : Int} (hc : 0 ≤ c) (hp : c ≤ p) (hp1 : p < 36028797018963968) :
    (first_ (t + c) a = last_ (t + c) a ∧ first_ t a ≤ last_ (t + c) a ∧ last_ (t + c) a ≤ last_ (t + p) a ∨
     first_ (t + c) a = last_ (t + c) a + 1 ∧ first_ t a ≤ last_ (t + c) a + 1 ∧ last_ (t + c) a ≤ last_ (t + p) a) ∧ last_ (t + p) a - first_ t a < 20 := by
  unfold first_ last_; omega
set_option maxRecDepth 100000 in
set_option maxHeartbeats 2000000 in
theorem nested_law (a0 a1 a2 a3 : Int) (_w0 : (Lit.int .i64 a0).wf = true) (_w1 : (Lit.int .i64 a1).wf = true) (_w2 : (Lit.int .i64 a2).wf = true) (w3 : (Lit.int .u64 a3).wf = true) (w : World) :
    Calls Try.prog 4 #[.int .i64 a0, .int .i64 a1, .int .i64 a2, .int .u64 a3] w (NearLawPost w) := by
  have b3 := bounds_u64 w3
  have ht := within_lo a0 144115188075855872 (by omega)
  have hp := within_lo a1 36028797018963968 (by omega)
  go_enter Try.func4, Try.ntmps4
  obtain ⟨t, ht'⟩ : ∃ t, within a0 144115188075855872 = t := ⟨_, rfl⟩
  obtain ⟨p, hp'⟩ : ∃ p, within a1 36028797018963968 = p := ⟨_, rfl⟩
  have HT := Lib.hid ht'
  have HP := Lib.hid hp'
  rw [ht'] at ht
  rw [hp'] at hp
  clear ht' hp'
  obtain ⟨ht0, ht1⟩ := ht
  obtain ⟨hp0, hp1⟩ := hp
  go_wp2_with fail
  refine (within_any _ _ (by omega) (by omega) _).mono ?_
  rw [HT.out]
  rintro e w' ⟨rfl, rfl⟩
  go_wp2_with fail
  refine (within_any _ _ (by omega) (by omega) _).mono ?_
  rw [HP.out]
  rintro e w' ⟨rfl, rfl⟩
  go_wp2_with fail
  have hc := within_lo a2 (p + 1) (by omega)
  refine (within_any _ _ (by omega) (by omega) _).mono ?_
  rintro e w' ⟨rfl, rfl⟩
  generalize within a2 (p + 1) = c at hc ⊢
  obtain ⟨hc0, hc1⟩ := hc
  obtain ⟨hn, hn20⟩ := nest_facts (t := t) (p := p) (c := c) (a := a3) (by omega) (by omega) (by omega)
  have v1 : vS t (t + p) = true := by unfold vS; simp; omega
  have v2 : vS t (t + c) = true := by unfold vS; simp; omega
  have v3 : vS (t + c) (t + p) = true := by unfold vS; simp; omega
  have V1 := Lib.hid v1
  have V2 := Lib.hid v2
  have V3 := Lib.hid v3
  have HN := Lib.hid hn
  have HN20 := Lib.hid hn20
  clear v1 v2 v3 hn hn20
  go_wp2_with fail
  refine (unfold_ok _ _ _ (by omega) (by omega) V1.out (by have := HN20.out; omega) _).mono ?_
  rintro e w1 ⟨va, rfl, owna, hb1⟩
  go_wp2_with fail
  refine (unfold_ok _ _ _ (by omega) (by omega) V2.out (by have := HN20.out; have := HN.out; omega) _).mono ?_
  rintro e w2 ⟨vx, rfl, ownx, hb2⟩
  go_wp2_with fail
  refine (unfold_ok _ _ _ (by omega) (by omega) V3.out (by have := HN20.out; have := HN.out; omega) _).mono ?_
  rintro e w4 ⟨vy, rfl, owny, hb4⟩
  have sa := ((Sees.of_own owna).below hb2).more hb2.size |>.below hb4 |>.more hb4.size
  have sx := ((Sees.of_own ownx).below hb4).more hb4.size
  have sy := Sees.of_own owny
  have hbw : Below w.heap.size w w4 := (hb1.trans (hb2.mono hb1.size)).trans (hb4.mono (Nat.le_trans hb1.size hb2.size))
  clear owna ownx owny hb1 hb2 hb4 V1 V2 V3
  obtain ⟨F, hF⟩ : ∃ F, F = first_ t a3 := ⟨_, rfl⟩
  have hn := HN.out
  have hn20 := HN20.out
  rw [← hF] at sa sx hn hn20
  clear HN HN20
  generalize last_ (t + c) a3 = M at sx sy hn hn20
  generalize last_ (t + p) a3 = L at sa sy hn hn20
  generalize first_ (t + c) a3 = G at sy hn
  have hcut := fun (W : World) (A : Option Addr) (n c : Nat) (h : 1 ≤ (n : Int)) => run_cut_from (P := Try.prog) 27 Try.underlying27 2 (fun _ => by kernel_rfl) A n c .i64 1 (by omega) h W
  rcases hn with ⟨hG, g2, g3⟩ | ⟨hG, g2, g3⟩
  · rw [hG] at sy
    clear hG
    obtain ⟨n, e1⟩ : ∃ n : Nat, (M - F + 1).toNat = n + 1 := ⟨(M - F).toNat, by omega⟩
    obtain ⟨m, e2⟩ : ∃ m : Nat, (L - M + 1).toNat = m + 1 := ⟨(L - M).toNat, by omega⟩
    have e3 : (L - F + 1).toNat = n + 1 + m := by omega
    have e4 : M + 1 = F + (n + 1 : Nat) := by omega
    have hM : F + n = M := by omega
    have n20 : n + 1 + m < 30 := by omega
    rw [e1] at sx
    rw [e2] at sy
    rw [e3] at sa
    obtain ⟨A1, c1, rfl, d1, d1'⟩ := sa.mk_
    obtain ⟨A2, c2, rfl, d2, d2'⟩ := sx.mk_
    obtain ⟨A3, c3, rfl, d3, d3'⟩ := sy.mk_
    unfold maxLen at d1' d2' d3'
    obtain ⟨b2, o2, rfl, hb2, hx⟩ := sx.at_ (by omega)
    obtain ⟨b3, o3, rfl, hb3, hy⟩ := sy.at_ (by omega)
    have x0 := hx _ _ (cellsOf_at F a3 (n + 1) n (by omega)).1
    have x1 := hx _ _ (cellsOf_at F a3 (n + 1) n (by omega)).2
    have y0 := hy _ _ (cellsOf_at M a3 (m + 1) 0 (by omega)).1
    have y1 := hy _ _ (cellsOf_at M a3 (m + 1) 0 (by omega)).2
    rw [hM] at x0 x1
    rw [← Nat.add_assoc] at x1
    simp only [Nat.zero_mul, Nat.add_zero, Nat.zero_add, Int.ofNat_zero, Int.add_zero] at y0 y1
    have SA := Lib.hid sa
    have SX := Lib.hid sx
    have SY := Lib.hid sy
    have E3 := Lib.hid e3
    have E4 := Lib.hid e4
    clear hx hy sa sx sy e1 e2 e3 e4 hM hF g2 g3 hn20 hp0 hp1 ht0 ht1 hc0 hc1
    have u1 : IntKind.i64.wrap (((n + 1 : Nat) : Int) - 1) = (n : Int) := by rw [IntKind.wrap_i64]; omega
    have u2 : (0 : Int) < ((n + 1 : Nat) : Int) := by omega
    have u3 : (0 : Int) < ((m + 1 : Nat) : Int) := by omega
    have u4 : (0 : Int) ≤ (n : Int) := by omega
    have u5 : (n : Int) < ((n + 1 : Nat) : Int) := by omega
    go_wp2_with fail
    go_quiet (fail)
    have HB := below_drewN hbw nq
    have HSA := Lib.hid (SA.out.drewN nq)
    have HSX := Lib.hid (SX.out.drewN nq)
    have HSY := Lib.hid (SY.out.drewN nq)
    have hz : (w4.drewN nq).heap.size = w4.heap.size := rfl
    clear x0 x1 y0 y1 SA SX SY hbw
    generalize w4.drewN nq = w5 at HB HSA HSX HSY hz ⊢
    have hcs : (m = 0 → c3 = 1 → Hid (Sees w5 w4.heap.size (.slice (some ⟨b3, o3, none⟩) m 0) 2 m (cellsOf (F + (n + 1 : Nat)) a3 m))) ∧ (¬ c3 = 1 → Hid (Sees w5 w4.heap.size (.slice (some ⟨b3, o3 + 2, none⟩) m (c3 - 1)) 2 m (cellsOf (F + (n + 1 : Nat)) a3 m))) := by
      have h := HSY.out.cut (l := 1) (h' := m + 1) (by omega) (Nat.le_refl _)
      rw [cellsOf_drop, E4.out, Nat.add_sub_cancel, List.take_of_length_le (by rw [cellsOf_len]; exact Nat.le_refl _)] at h
      refine ⟨fun _ h1 => ?_, fun h1 => ?_⟩
      · rw [cutA, if_pos h1, h1] at h; exact h
      · rw [cutA, if_neg h1] at h; exact h
    obtain ⟨hcs1, hcs2⟩ := hcs
    have HC1 := Lib.hid hcs1
    have HC2 := Lib.hid hcs2
    clear hcs1 hcs2 hcut HSY E4
    by_cases hc3 : c3 = 1
    · subst hc3
      have SY := HC1.out (by omega) rfl
      clear d3 d3'
      go_wp2_with fail
      generalize (Value.slice (some ⟨b3, o3, none⟩) m 0) = vy at SY ⊢
      generalize (Value.slice (some ⟨b2, o2, none⟩) (n + 1) c2) = vx at HSX ⊢
      clear HC1 HC2
      generalize n + 1 = N at *
      refine (known_any _).mono ?_
      rintro e w6 ⟨rfl, hb6⟩
      have sA := ((HSA.out.more (by omega)).below hb6).more hb6.size
      have sX := ((HSX.out.more (by omega)).below hb6).more hb6.size
      have sY := ((SY.out.more (by omega)).below hb6).more hb6.size
      have HB6 := HB.trans (hb6.mono HB.size)
      clear HSA HSX SY hb6
      obtain ⟨i0, hi0, hz0, hz1, hz2⟩ := info_parts span_info
      have own0 : (w6.alloc (.cells #[] 32)).ownsRow w6.heap.size 32 2 (.slice (some ⟨w6.heap.size, 0, none⟩) 0 0) 0 [] := World.ownsRow_made w6 #[] 0 (Nat.le_refl _) (by unfold maxLen; omega) rfl
      go_wp2_with (first
        | (at_builtin
           refine wpList_append_sees (by rfl) (.tmp 91) (.tmp 92) 27 (by rfl) w6.heap.size 32 i0 (.agg #[.int .i64 0, .int .i64 0]) 2 16 Try.underlying27 hi0 hz0 hz1 hz2 rfl (by omega) (.slice (some ⟨w6.heap.size, 0, none⟩) 0 0) 0 [] (by rfl) own0 w6.heap.size vx N (cellsOf F a3 N) (by rfl) (sX.alloc (Nat.le_refl _) _) (cellsOf_int _ _ _) ?q1 ?q2 ?q3 ?_
           (case q1 => unfold maxLen; omega)
           (case q2 => omega)
           (case q3 => simp)
           intro v7 w7 own7 hg7 hat7
           clear own0
           have hbl7 : Below w6.heap.size w6 w7 := ((Below.refl _ _).alloc (Nat.le_refl _) _).grown hg7 (by simp) (fun k hk => by simp [Value.ownBlock] at hk; omega)
           have sA7 := sA.below hbl7
           have sY7 := sY.below hbl7
           have hz7 := hbl7.size
           simp only [List.nil_append, Nat.zero_add] at own7
           have HB7 := HB6.trans (hbl7.mono HB6.size)
           clear hg7 hat7 sA sX sY hbl7)
        | (at_builtin
           refine wpList_append_sees (by rfl) (.tmp 93) (.tmp 94) 27 (by rfl) w6.heap.size 32 i0 (.agg #[.int .i64 0, .int .i64 0]) 2 16 Try.underlying27 hi0 hz0 hz1 hz2 rfl (by omega) v7 N (cellsOf F a3 N) (by rfl) own7 w6.heap.size vy m (cellsOf (F + N) a3 m) (by rfl) sY7 (cellsOf_int _ _ _) ?r1 ?r2 ?r3 ?_
           (case r1 => unfold maxLen; omega)
           (case r2 => omega)
           (case r3 => exact hz7)
           intro v8 w8 own8 hg8 hat8))
      have hbl8 : Below w6.heap.size w7 w8 := (Below.refl _ _).grown hg8 hz7 (fun k hk => (own7.lt k hk).1)
      rw [cellsOf_append] at own8
      have sA8 := (sA7.below hbl8).more (Nat.le_trans hz7 hbl8.size)
      have HB8 := HB7.trans (hbl8.mono HB6.size)
      clear hg8 hat8 sA7 sY7 hbl8 own7
      refine (same_true _ _ _ _ _ _ _ _ (Sees.of_own own8) sA8 (fun k hk => cellsOf_at F a3 _ k hk)).mono ?_
      rintro e w9 ⟨rfl, q, rfl⟩
      go_wp2
      go_ret
      exact ⟨rfl, below_drewN HB8 q⟩
    · have SY := HC2.out hc3
      go_wp2_with fail
      generalize (Value.slice (some ⟨b3, o3 + 2, none⟩) m (c3 - 1)) = vy at SY ⊢
      generalize (Value.slice (some ⟨b2, o2, none⟩) (n + 1) c2) = vx at HSX ⊢
      clear HC1 HC2
      generalize n + 1 = N at *
      refine (known_any _).mono ?_
      rintro e w6 ⟨rfl, hb6⟩
      have sA := ((HSA.out.more (by omega)).below hb6).more hb6.size
      have sX := ((HSX.out.more (by omega)).below hb6).more hb6.size
      have sY := ((SY.out.more (by omega)).below hb6).more hb6.size
      have HB6 := HB.trans (hb6.mono HB.size)
      clear HSA HSX SY hb6
      obtain ⟨i0, hi0, hz0, hz1, hz2⟩ := info_parts span_info
      have own0 : (w6.alloc (.cells #[] 32)).ownsRow w6.heap.size 32 2 (.slice (some ⟨w6.heap.size, 0, none⟩) 0 0) 0 [] := World.ownsRow_made w6 #[] 0 (Nat.le_refl _) (by unfold maxLen; omega) rfl
      go_wp2_with (first
        | (at_builtin
           refine wpList_append_sees (by rfl) (.tmp 91) (.tmp 92) 27 (by rfl) w6.heap.size 32 i0 (.agg #[.int .i64 0, .int .i64 0]) 2 16 Try.underlying27 hi0 hz0 hz1 hz2 rfl (by omega) (.slice (some ⟨w6.heap.size, 0, none⟩) 0 0) 0 [] (by rfl) own0 w6.heap.size vx N (cellsOf F a3 N) (by rfl) (sX.alloc (Nat.le_refl _) _) (cellsOf_int _ _ _) ?q1 ?q2 ?q3 ?_
           (case q1 => unfold maxLen; omega)
           (case q2 => omega)
           (case q3 => simp)
           intro v7 w7 own7 hg7 hat7
           clear own0
           have hbl7 : Below w6.heap.size w6 w7 := ((Below.refl _ _).alloc (Nat.le_refl _) _).grown hg7 (by simp) (fun k hk => by simp [Value.ownBlock] at hk; omega)
           have sA7 := sA.below hbl7
           have sY7 := sY.below hbl7
           have hz7 := hbl7.size
           simp only [List.nil_append, Nat.zero_add] at own7
           have HB7 := HB6.trans (hbl7.mono HB6.size)
           clear hg7 hat7 sA sX sY hbl7)
        | (at_builtin
           refine wpList_append_sees (by rfl) (.tmp 93) (.tmp 94) 27 (by rfl) w6.heap.size 32 i0 (.agg #[.int .i64 0, .int .i64 0]) 2 16 Try.underlying27 hi0 hz0 hz1 hz2 rfl (by omega) v7 N (cellsOf F a3 N) (by rfl) own7 w6.heap.size vy m (cellsOf (F + N) a3 m) (by rfl) sY7 (cellsOf_int _ _ _) ?r1 ?r2 ?r3 ?_
           (case r1 => unfold maxLen; omega)
           (case r2 => omega)
           (case r3 => exact hz7)
           intro v8 w8 own8 hg8 hat8))
      have hbl8 : Below w6.heap.size w7 w8 := (Below.refl _ _).grown hg8 hz7 (fun k hk => (own7.lt k hk).1)
      rw [cellsOf_append] at own8
      have sA8 := (sA7.below hbl8).more (Nat.le_trans hz7 hbl8.size)
      have HB8 := HB7.trans (hbl8.mono HB6.size)
      clear hg8 hat8 sA7 sY7 hbl8 own7
      refine (same_true _ _ _ _ _ _ _ _ (Sees.of_own own8) sA8 (fun k hk => cellsOf_at F a3 _ k hk)).mono ?_
      rintro e w9 ⟨rfl, q, rfl⟩
      go_wp2
      go_ret
      exact ⟨rfl, below_drewN HB8 q⟩
  · rw [hG] at sy
    clear hG
    obtain ⟨N, e1⟩ : ∃ n : Nat, (M - F + 1).toNat = n := ⟨_, rfl⟩
    obtain ⟨m, e2⟩ : ∃ m : Nat, (L - (M + 1) + 1).toNat = m := ⟨_, rfl⟩
    have e3 : (L - F + 1).toNat = N + m := by omega
    have e4 : M + 1 = F + N := by omega
    have n20 : N + m < 30 := by omega
    rw [e1] at sx
    rw [e2, e4] at sy
    rw [e3] at sa
    obtain ⟨A1, c1, rfl, d1, d1'⟩ := sa.mk_
    obtain ⟨A2, c2, rfl, d2, d2'⟩ := sx.mk_
    obtain ⟨A3, c3, rfl, d3, d3'⟩ := sy.mk_
    unfold maxLen at d1' d2' d3'
    have SA := Lib.hid sa
    have SX := Lib.hid sx
    have SY := Lib.hid sy
    clear sa sx sy e1 e2 e3 e4 hF g2 g3 hn20 hp0 hp1 ht0 ht1 hc0 hc1 hcut
    rcases Nat.eq_zero_or_pos N with hN | hN
    · have k1 : decide ((0 : Int) < (N : Int)) = false := by simp; omega
      have k2 : decide (0 < N) = false := by simp; omega
      have HK := Lib.hid hN
      clear hN
      go_wp2_with fail
      go_quiet (fail)
      have HB := below_drewN hbw nq
      have HSA := Lib.hid (SA.out.drewN nq)
      have HSX := Lib.hid (SX.out.drewN nq)
      have HSY := Lib.hid (SY.out.drewN nq)
      have hz : (w4.drewN nq).heap.size = w4.heap.size := rfl
      clear SA SX SY hbw
      generalize w4.drewN nq = w5 at HB HSA HSX HSY hz ⊢
      go_wp2_with fail
      generalize (Value.slice A2 N c2) = vx at HSX ⊢
      generalize (Value.slice A3 m c3) = vy at HSY ⊢
      have SY := HSY
      clear HSY k1 k2 HK
      refine (known_any _).mono ?_
      rintro e w6 ⟨rfl, hb6⟩
      have sA := ((HSA.out.more (by omega)).below hb6).more hb6.size
      have sX := ((HSX.out.more (by omega)).below hb6).more hb6.size
      have sY := ((SY.out.more (by omega)).below hb6).more hb6.size
      have HB6 := HB.trans (hb6.mono HB.size)
      clear HSA HSX SY hb6
      obtain ⟨i0, hi0, hz0, hz1, hz2⟩ := info_parts span_info
      have own0 : (w6.alloc (.cells #[] 32)).ownsRow w6.heap.size 32 2 (.slice (some ⟨w6.heap.size, 0, none⟩) 0 0) 0 [] := World.ownsRow_made w6 #[] 0 (Nat.le_refl _) (by unfold maxLen; omega) rfl
      go_wp2_with (first
        | (at_builtin
           refine wpList_append_sees (by rfl) (.tmp 91) (.tmp 92) 27 (by rfl) w6.heap.size 32 i0 (.agg #[.int .i64 0, .int .i64 0]) 2 16 Try.underlying27 hi0 hz0 hz1 hz2 rfl (by omega) (.slice (some ⟨w6.heap.size, 0, none⟩) 0 0) 0 [] (by rfl) own0 w6.heap.size vx N (cellsOf F a3 N) (by rfl) (sX.alloc (Nat.le_refl _) _) (cellsOf_int _ _ _) ?q1 ?q2 ?q3 ?_
           (case q1 => unfold maxLen; omega)
           (case q2 => omega)
           (case q3 => simp)
           intro v7 w7 own7 hg7 hat7
           clear own0
           have hbl7 : Below w6.heap.size w6 w7 := ((Below.refl _ _).alloc (Nat.le_refl _) _).grown hg7 (by simp) (fun k hk => by simp [Value.ownBlock] at hk; omega)
           have sA7 := sA.below hbl7
           have sY7 := sY.below hbl7
           have hz7 := hbl7.size
           simp only [List.nil_append, Nat.zero_add] at own7
           have HB7 := HB6.trans (hbl7.mono HB6.size)
           clear hg7 hat7 sA sX sY hbl7)
        | (at_builtin
           refine wpList_append_sees (by rfl) (.tmp 93) (.tmp 94) 27 (by rfl) w6.heap.size 32 i0 (.agg #[.int .i64 0, .int .i64 0]) 2 16 Try.underlying27 hi0 hz0 hz1 hz2 rfl (by omega) v7 N (cellsOf F a3 N) (by rfl) own7 w6.heap.size vy m (cellsOf (F + N) a3 m) (by rfl) sY7 (cellsOf_int _ _ _) ?r1 ?r2 ?r3 ?_
           (case r1 => unfold maxLen; omega)
           (case r2 => omega)
           (case r3 => exact hz7)
           intro v8 w8 own8 hg8 hat8))
      have hbl8 : Below w6.heap.size w7 w8 := (Below.refl _ _).grown hg8 hz7 (fun k hk => (own7.lt k hk).1)
      rw [cellsOf_append] at own8
      have sA8 := (sA7.below hbl8).more (Nat.le_trans hz7 hbl8.size)
      have HB8 := HB7.trans (hbl8.mono HB6.size)
      clear hg8 hat8 sA7 sY7 hbl8 own7
      refine (same_true _ _ _ _ _ _ _ _ (Sees.of_own own8) sA8 (fun k hk => cellsOf_at F a3 _ k hk)).mono ?_
      rintro e w9 ⟨rfl, q, rfl⟩
      go_wp2
      go_ret
      exact ⟨rfl, below_drewN HB8 q⟩
    rcases Nat.eq_zero_or_pos m with hm | hm
    · have k1 : decide ((0 : Int) < (m : Int)) = false := by simp; omega
      have k2 : decide (0 < m) = false := by simp; omega
      have k3 : (0 : Int) < (N : Int) := by omega
      have HK := Lib.hid hm
      clear hm
      go_wp2_with fail
      go_quiet (fail)
      have HB := below_drewN hbw nq
      have HSA := Lib.hid (SA.out.drewN nq)
      have HSX := Lib.hid (SX.out.drewN nq)
      have HSY := Lib.hid (SY.out.drewN nq)
      have hz : (w4.drewN nq).heap.size = w4.heap.size := rfl
      clear SA SX SY hbw
      generalize w4.drewN nq = w5 at HB HSA HSX HSY hz ⊢
      go_wp2_with fail
      generalize (Value.slice A2 N c2) = vx at HSX ⊢
      generalize (Value.slice A3 m c3) = vy at HSY ⊢
      have SY := HSY
      clear HSY k1 k2 k3 HK hN
      refine (known_any _).mono ?_
      rintro e w6 ⟨rfl, hb6⟩
      have sA := ((HSA.out.more (by omega)).below hb6).more hb6.size
      have sX := ((HSX.out.more (by omega)).below hb6).more hb6.size
      have sY := ((SY.out.more (by omega)).below hb6).more hb6.size
      have HB6 := HB.trans (hb6.mono HB.size)
      clear HSA HSX SY hb6
      obtain ⟨i0, hi0, hz0, hz1, hz2⟩ := info_parts span_info
      have own0 : (w6.alloc (.cells #[] 32)).ownsRow w6.heap.size 32 2 (.slice (some ⟨w6.heap.size, 0, none⟩) 0 0) 0 [] := World.ownsRow_made w6 #[] 0 (Nat.le_refl _) (by unfold maxLen; omega) rfl
      go_wp2_with (first
        | (at_builtin
           refine wpList_append_sees (by rfl) (.tmp 91) (.tmp 92) 27 (by rfl) w6.heap.size 32 i0 (.agg #[.int .i64 0, .int .i64 0]) 2 16 Try.underlying27 hi0 hz0 hz1 hz2 rfl (by omega) (.slice (some ⟨w6.heap.size, 0, none⟩) 0 0) 0 [] (by rfl) own0 w6.heap.size vx N (cellsOf F a3 N) (by rfl) (sX.alloc (Nat.le_refl _) _) (cellsOf_int _ _ _) ?q1 ?q2 ?q3 ?_
           (case q1 => unfold maxLen; omega)
           (case q2 => omega)
           (case q3 => simp)
           intro v7 w7 own7 hg7 hat7
           clear own0
           have hbl7 : Below w6.heap.size w6 w7 := ((Below.refl _ _).alloc (Nat.le_refl _) _).grown hg7 (by simp) (fun k hk => by simp [Value.ownBlock] at hk; omega)
           have sA7 := sA.below hbl7
           have sY7 := sY.below hbl7
           have hz7 := hbl7.size
           simp only [List.nil_append, Nat.zero_add] at own7
           have HB7 := HB6.trans (hbl7.mono HB6.size)
           clear hg7 hat7 sA sX sY hbl7)
        | (at_builtin
           refine wpList_append_sees (by rfl) (.tmp 93) (.tmp 94) 27 (by rfl) w6.heap.size 32 i0 (.agg #[.int .i64 0, .int .i64 0]) 2 16 Try.underlying27 hi0 hz0 hz1 hz2 rfl (by omega) v7 N (cellsOf F a3 N) (by rfl) own7 w6.heap.size vy m (cellsOf (F + N) a3 m) (by rfl) sY7 (cellsOf_int _ _ _) ?r1 ?r2 ?r3 ?_
           (case r1 => unfold maxLen; omega)
           (case r2 => omega)
           (case r3 => exact hz7)
           intro v8 w8 own8 hg8 hat8))
      have hbl8 : Below w6.heap.size w7 w8 := (Below.refl _ _).grown hg8 hz7 (fun k hk => (own7.lt k hk).1)
      rw [cellsOf_append] at own8
      have sA8 := (sA7.below hbl8).more (Nat.le_trans hz7 hbl8.size)
      have HB8 := HB7.trans (hbl8.mono HB6.size)
      clear hg8 hat8 sA7 sY7 hbl8 own7
      refine (same_true _ _ _ _ _ _ _ _ (Sees.of_own own8) sA8 (fun k hk => cellsOf_at F a3 _ k hk)).mono ?_
      rintro e w9 ⟨rfl, q, rfl⟩
      go_wp2
      go_ret
      exact ⟨rfl, below_drewN HB8 q⟩
    · obtain ⟨n, rfl⟩ : ∃ n, N = n + 1 := ⟨N - 1, by omega⟩
      obtain ⟨b2, o2, rfl, hb2, hx⟩ := SX.out.at_ (by omega)
      obtain ⟨b3, o3, rfl, hb3, hy⟩ := SY.out.at_ (by omega)
      have x0 := hx _ _ (cellsOf_at F a3 (n + 1) n (by omega)).1
      have x1 := hx _ _ (cellsOf_at F a3 (n + 1) n (by omega)).2
      have y0 := hy _ _ (cellsOf_at (F + (n + 1 : Nat)) a3 m 0 (by omega)).1
      have y1 := hy _ _ (cellsOf_at (F + (n + 1 : Nat)) a3 m 0 (by omega)).2
      have hne : (lo_ (F + n) a3 == lo_ (F + (n + 1 : Nat)) a3) = false := by rw [beq_eq_false_iff_ne]; unfold lo_; omega
      rw [← Nat.add_assoc] at x1
      simp only [Nat.zero_mul, Nat.add_zero, Nat.zero_add, Int.ofNat_zero, Int.add_zero] at y0 y1
      have HSX0 := SX
      have HSY0 := SY
      have ex : ∀ k : Int, Hid (k = lo_ (F + (n + 1 : Nat)) a3) → True := fun _ _ => trivial
      clear ex
      generalize hq : lo_ (F + (n + 1 : Nat)) a3 = q0 at y0 hne
      generalize hq' : lo_ (F + n) a3 = q1 at x0 hne
      generalize hq'' : hi_ (F + (n + 1 : Nat)) a3 = q2 at y1
      generalize hq3 : hi_ (F + n) a3 = q3 at x1
      clear hx hy hq hq' hq'' hq3 HSX0 HSY0
      have u1 : IntKind.i64.wrap (((n + 1 : Nat) : Int) - 1) = (n : Int) := by rw [IntKind.wrap_i64]; omega
      have u2 : (0 : Int) < ((n + 1 : Nat) : Int) := by omega
      have u3 : (0 : Int) < (m : Int) := by omega
      have u4 : (0 : Int) ≤ (n : Int) := by omega
      have u5 : (n : Int) < ((n + 1 : Nat) : Int) := by omega
      go_wp2_with fail
      go_quiet (fail)
      have HB := below_drewN hbw nq
      have HSA := Lib.hid (SA.out.drewN nq)
      have HSX := Lib.hid (SX.out.drewN nq)
      have HSY := Lib.hid (SY.out.drewN nq)
      have hz : (w4.drewN nq).heap.size = w4.heap.size := rfl
      clear SA SX SY hbw x0 x1 y0 y1
      generalize w4.drewN nq = w5 at HB HSA HSX HSY hz ⊢
      go_wp2_with fail
      generalize (Value.slice (some ⟨b2, o2, none⟩) (n + 1) c2) = vx at HSX ⊢
      generalize (Value.slice (some ⟨b3, o3, none⟩) m c3) = vy at HSY ⊢
      have SY := HSY
      clear HSY
      generalize n + 1 = N at *
      refine (known_any _).mono ?_
      rintro e w6 ⟨rfl, hb6⟩
      have sA := ((HSA.out.more (by omega)).below hb6).more hb6.size
      have sX := ((HSX.out.more (by omega)).below hb6).more hb6.size
      have sY := ((SY.out.more (by omega)).below hb6).more hb6.size
      have HB6 := HB.trans (hb6.mono HB.size)
      clear HSA HSX SY hb6
      obtain ⟨i0, hi0, hz0, hz1, hz2⟩ := info_parts span_info
      have own0 : (w6.alloc (.cells #[] 32)).ownsRow w6.heap.size 32 2 (.slice (some ⟨w6.heap.size, 0, none⟩) 0 0) 0 [] := World.ownsRow_made w6 #[] 0 (Nat.le_refl _) (by unfold maxLen; omega) rfl
      go_wp2_with (first
        | (at_builtin
           refine wpList_append_sees (by rfl) (.tmp 91) (.tmp 92) 27 (by rfl) w6.heap.size 32 i0 (.agg #[.int .i64 0, .int .i64 0]) 2 16 Try.underlying27 hi0 hz0 hz1 hz2 rfl (by omega) (.slice (some ⟨w6.heap.size, 0, none⟩) 0 0) 0 [] (by rfl) own0 w6.heap.size vx N (cellsOf F a3 N) (by rfl) (sX.alloc (Nat.le_refl _) _) (cellsOf_int _ _ _) ?q1 ?q2 ?q3 ?_
           (case q1 => unfold maxLen; omega)
           (case q2 => omega)
           (case q3 => simp)
           intro v7 w7 own7 hg7 hat7
           clear own0
           have hbl7 : Below w6.heap.size w6 w7 := ((Below.refl _ _).alloc (Nat.le_refl _) _).grown hg7 (by simp) (fun k hk => by simp [Value.ownBlock] at hk; omega)
           have sA7 := sA.below hbl7
           have sY7 := sY.below hbl7
           have hz7 := hbl7.size
           simp only [List.nil_append, Nat.zero_add] at own7
           have HB7 := HB6.trans (hbl7.mono HB6.size)
           clear hg7 hat7 sA sX sY hbl7)
        | (at_builtin
           refine wpList_append_sees (by rfl) (.tmp 93) (.tmp 94) 27 (by rfl) w6.heap.size 32 i0 (.agg #[.int .i64 0, .int .i64 0]) 2 16 Try.underlying27 hi0 hz0 hz1 hz2 rfl (by omega) v7 N (cellsOf F a3 N) (by rfl) own7 w6.heap.size vy m (cellsOf (F + N) a3 m) (by rfl) sY7 (cellsOf_int _ _ _) ?r1 ?r2 ?r3 ?_
           (case r1 => unfold maxLen; omega)
           (case r2 => omega)
           (case r3 => exact hz7)
           intro v8 w8 own8 hg8 hat8))
      have hbl8 : Below w6.heap.size w7 w8 := (Below.refl _ _).grown hg8 hz7 (fun k hk => (own7.lt k hk).1)
      rw [cellsOf_append] at own8
      have sA8 := (sA7.below hbl8).more (Nat.le_trans hz7 hbl8.size)
      have HB8 := HB7.trans (hbl8.mono HB6.size)
      clear hg8 hat8 sA7 sY7 hbl8 own7
      refine (same_true _ _ _ _ _ _ _ _ (Sees.of_own own8) sA8 (fun k hk => cellsOf_at F a3 _ k hk)).mono ?_
      rintro e w9 ⟨rfl, q, rfl⟩
      go_wp2
      go_ret
      exact ⟨rfl, below_drewN HB8 q⟩
end Go.Proofs.Ytgdbfjfnjjmfmaa

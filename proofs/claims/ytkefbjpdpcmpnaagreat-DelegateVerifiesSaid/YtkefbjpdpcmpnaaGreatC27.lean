/- Contract of sectimelaw29.made: answers to a batch, the nonces, the key. Conditions: a valid span. Plain functions of delegate.Answer: an answer with the delegation behind it, what Answer returns; the post. No conditions. Contract of delegate.granted: a grant in new memory, with another key. Conditions: the bytes of the delegation are seen. Contract of delegate.Answer. Conditions: the grant's bytes and the nonces are seen, at most 1048576 bytes of the signature and 1048576 of the key, at most 1048576 nonces. -/
import Derived.BigQuiet
import Derived.Test.YtkefbjpdpcmpnaaGreatC26
import Derived.Test.YtkefbjpdpcmpnaaGreatC19
import Derived.Test.YtkefbjpdpcmpnaaGreatC22
import Derived.Test.YtkefbjpdpcmpnaaGreatC23
namespace Go.Proofs.YtkefbjpdpcmpnaaGreat
open Go Go.RowKit
set_option linter.unusedVariables false
set_option linter.unusedSimpArgs false
attribute [local go_sem ↓] Go.wp_at_zero Go.wp_at_succ
def MadeP (w : World) (e : Ending) (w' : World) : Prop :=
  ∃ va vn vp ys ns pk, e = .returned (.tuple #[va, vn, vp]) ∧ SeesL w' w'.heap.size va ys ∧ SeesL w' w'.heap.size vn ns ∧ SeesB w' w'.heap.size vp pk ∧ ys.length = ns.length ∧ 1 ≤ ns.length ∧ ns.length ≤ 5 ∧ (∀ x ∈ ys, x.length ≤ 2048) ∧ (∀ x ∈ ns, x.length = 32) ∧ pk.length = 32 ∧ Below w.heap.size w w'
set_option maxRecDepth 100000 in
set_option maxHeartbeats 4000000 in
theorem made_any (v n ht lo hi : Int) (w : World) (hv : vS lo hi = true) : Calls Tryz.prog 15 #[.int .i64 v, .int .i64 n, .int .i64 ht, .agg #[.int .i64 lo, .int .i64 hi]] w (MadeP w) := by
  have hks := Lib.hid (fun x y W => ksigner_any x y W)
  have hwi := Lib.hid (fun (v m : Int) (h1 : 1 ≤ m) (h2 : m ≤ 4294967296) W => kwithin_any v m h1 h2 W)
  have hal := Lib.hid (balloc w (.cells #[.int .i64 lo, .int .i64 hi] 27))
  have x7 := Box.new w 27 [.int .i64 lo, .int .i64 hi]
  change Box (w.alloc (.cells #[.int .i64 lo, .int .i64 hi] 27)) _ _ _ at x7
  obtain ⟨q, hq, hq2⟩ := kmod_nat n 5 (by omega)
  have hrn : Hid (∀ x W, Calls Tryz.prog 31 #[.int .i64 x, .int .i64 32, .int .i64 (1 + (q : Int))] W (GivesL (randsK x 32 (q + 1)) W)) := fun x W => by
    have := krandoms_any x 32 (q + 1) W (by omega) (by omega)
    rw [show ((q + 1 : Nat) : Int) = 1 + (q : Int) by omega] at this
    exact this
  have hq5 : (q : Int) < 5 := by omega
  have hq0 : (0 : Int) ≤ (q : Int) := by omega
  replace hq := Lib.hid hq
  replace hv := Lib.hid hv
  clear hq2
  go_enter Tryz.func15, Tryz.ntmps15
  go_upto_region 1 with (fail)
  generalize w.alloc (.cells #[.int .i64 lo, .int .i64 hi] 27) = W0 at *
  generalize hgg : w.heap.size = g7 at x7 ⊢
  replace hgg := Lib.hid hgg
  go_wp2_with fail
  refine (hks.out _ _ _).mono ?_
  rintro e w1 ⟨v1, v2, sd, pk, rfl, s1, hsd, s2, -, hpl, hb1⟩
  obtain ⟨A1, c1, rfl, -, -⟩ := s1.mk_
  obtain ⟨A2, c2, rfl, -, -⟩ := s2.mk_
  have hH0 : 0 ≤ ht % 2 := by omega
  have hH1 : ht % 2 ≤ 1 := by omega
  generalize ht % 2 = H at *
  have hal1 := balloc w1 (.cells #[.slice A1 sd.length c1, .int .i64 H, .int .i64 0] 39)
  have x11 := Box.new w1 39 [.slice A1 sd.length c1, .int .i64 H, .int .i64 0]
  change Box (w1.alloc (.cells #[.slice A1 sd.length c1, .int .i64 H, .int .i64 0] 39)) _ _ _ at x11
  have hb11 := bgo hb1 hal1
  replace x7 := x7.below hb11
  have hbw := Lib.hid (bgo hal.out hb11)
  replace s1 := Lib.hid (seesB_of s1 (Nat.le_refl _) hal1)
  replace s2 := Lib.hid (seesB_of s2 (Nat.le_refl _) hal1)
  replace hsd := Lib.hid hsd
  replace hpl := Lib.hid hpl
  replace hH0 := Lib.hid hH0
  replace hH1 := Lib.hid hH1
  clear hb1 hal hal1 hb11 hks
  dsimp only
  go_upto_region 2 with (fail)
  generalize w1.alloc (.cells #[.slice A1 sd.length c1, .int .i64 H, .int .i64 0] 39) = W1 at *
  generalize w1.heap.size = g11 at *
  go_wp2_with fail
  refine (hwi.out v 100 (by omega) (by omega) W1).mono ?_
  rintro e w2 ⟨rfl, hw2⟩
  obtain rfl := hw2.symm
  dsimp only
  go_wp2_with fail
  have hwn := hwi.out n 5 (by omega) (by omega) W1
  rw [hq.out] at hwn
  refine hwn.mono ?_
  rintro e w2 ⟨rfl, hw2⟩
  obtain rfl := hw2.symm
  clear hwn hwi
  dsimp only
  go_wp2_with fail
  refine (hrn.out _ _).mono ?_
  rintro e w3 ⟨v3, rfl, o3, hb3⟩
  have hl := randsK_len (v % 100) 32 (q + 1)
  have h32 := randsK_each (v % 100) 32 (q + 1) (by omega)
  generalize randsK (v % 100) 32 (q + 1) = ns at *
  obtain ⟨A3, c3, rfl⟩ := o3.shape
  replace x7 := x7.below hb3
  replace x11 := x11.below hb3
  replace s1 := Lib.hid (seesB_of s1.out (Nat.le_refl _) hb3)
  replace s2 := Lib.hid (seesB_of s2.out (Nat.le_refl _) hb3)
  replace hbw := Lib.hid (bgo hbw.out hb3)
  have hans := ranswer_any w3.heap.size _ _ sd H 0 ns lo hi w3 s1.out o3.sees (Nat.le_refl _) (by omega)
  rw [answer_first hsd.out hH0.out (by have := hH1.out; omega) (by omega) (by omega) h32 hv.out] at hans
  have hal := ansL_len ns (sigG sd H.toNat 0 (tBatch ++ partG ns lo hi)) (partG ns lo hi) ns.length
  have hael : ∀ x ∈ ansL ns (sigG sd H.toNat 0 (tBatch ++ partG ns lo hi)) (partG ns lo hi) ns.length, x.length ≤ 2048 := by
    intro x hx
    simp only [ansL, List.mem_map] at hx
    obtain ⟨i, -, rfl⟩ := hx
    exact ansB_len _ _ _ _
  generalize ansL ns (sigG sd H.toNat 0 (tBatch ++ partG ns lo hi)) (partG ns lo hi) ns.length = ys at *
  unfold AnswerP at hans
  obtain ⟨k0, k1, k2, -, -, -⟩ := box3_cells x11
  obtain ⟨k3, k4⟩ := boxT2 x7
  replace hans := Lib.hid hans
  replace hael := Lib.hid hael
  replace h32 := Lib.hid h32
  replace o3 := Lib.hid o3.sees
  replace hl := Lib.hid hl
  replace hal := Lib.hid hal
  clear hb3 hrn
  dsimp only
  go_wp2_with fail
  refine hans.out.mono ?_
  rintro e w4 ⟨v4, v5, rfl, el4, o5, hb4⟩
  obtain ⟨A5, c5, rfl⟩ := o5.shape
  obtain ⟨A4, c4, rfl, -, -⟩ := el4.1.mk_
  have hX := balloc w4 (.cells #[.slice A4 sd.length c4, .int .i64 H, .int .i64 1] 39)
  have r5 := Lib.hid (seesL_of o5.sees (Nat.le_refl _) hX)
  have r3 := Lib.hid (seesL_of o3.out (Nat.le_refl _) (bgo hb4 hX))
  have r2 := Lib.hid (seesB_of s2.out (Nat.le_refl _) (bgo hb4 hX))
  replace hbw := Lib.hid (bgo hbw.out (bgo hb4 hX))
  clear k0 k1 k2 k3 k4 x7 x11 hans el4 o5 hb4 hX
  dsimp only
  go_wp2_with fail
  go_returns
  exact ⟨_, _, _, ys, ns, pk, rfl, r5.out, r3.out, r2.out, hal.out, by have := hl.out; omega, by have := hl.out; omega, hael.out, h32.out, hpl.out, hbw.out⟩
end Go.Proofs.YtkefbjpdpcmpnaaGreat
namespace Go.Proofs.YtkefbjpdpcmpnaaGreat
open Go Go.RowKit
set_option linter.unusedVariables false
def wrapT (a c : Bs) : List (Bs × Bs) := [(nANSW, a), (nCERT, c)]
def wrapB (c a : Bs) : Bs := encT (wrapT a c)
def wrapOk (c : Bs) (ys : List Bs) : Bool := ys.all fun a => decide (encC (wrapT a c) = 0)
abbrev GrantV := (Bs × Int × Int) × (Bs × Int × Int × Bs)
def noGrant : GrantV := (([], 0, 0), ([], 0, 0, []))
/-- What Answer returns: the grant, the answers, the error. -/
def dansR (sd : Bs) (h n : Int) (P : Bs) (f t : Int) (S : Bs) (ns : List Bs) (lo hi : Int) : GrantV × List Bs × Int :=
  if dencC P f t S = 0 then
    (if (answerR sd h n ns lo hi).2.2 = 0 then
      (if inS lo hi f t = true then
        (if wrapOk (dencB P f t S) (answerR sd h n ns lo hi).2.1 = true then (((answerR sd h n ns lo hi).1, (P, f, t, S)), (answerR sd h n ns lo hi).2.1.map (wrapB (dencB P f t S)), 0)
        else (noGrant, [], 2))
      else (noGrant, [], 25))
    else (noGrant, [], (answerR sd h n ns lo hi).2.2))
  else (noGrant, [], dencC P f t S)
theorem wrapOk_step (c : Bs) (ys : List Bs) (k : Nat) (a : Bs) (h : ys[k]? = some a) : wrapOk c (ys.take (k + 1)) = (wrapOk c (ys.take k) && decide (encC (wrapT a c) = 0)) := by
  rw [take_one ys k a h]
  unfold wrapOk
  rw [List.all_append]
  simp
theorem wrapOk_false {c : Bs} {ys : List Bs} {a : Bs} (h : a ∈ ys) (hc : encC (wrapT a c) ≠ 0) : wrapOk c ys = false := by
  cases hw : wrapOk c ys with
  | false => rfl
  | true =>
    unfold wrapOk at hw
    rw [List.all_eq_true] at hw
    have := hw a h
    simp at this
    exact absurd this hc
theorem encT_mod (ts : List (Bs × Bs)) : (encT ts).length % 4 = 0 := by
  by_cases h : encC ts = 0
  · have he : encT ts = bodyT ts := by rw [encT, if_pos h]
    rw [he]
    unfold encC at h
    split at h
    · omega
    split at h
    · rename_i g1 g2
      have h4 := checkT_ok ts [] g2
      have hb := body_len ts h4 (by omega)
      have hd := (dataT_pre ts h4 (by omega) ts.length).2
      rw [List.take_of_length_le (Nat.le_refl _)] at hd
      omega
    · rename_i g2
      exact absurd h g2
  · rw [encT, if_neg h]; rfl
theorem denc_mod (P : Bs) (f t : Int) (S : Bs) : (dencB P f t S).length % 4 = 0 := by
  by_cases h : dencC P f t S = 0
  · rw [← (dtags_enc P f t S h).2]
    exact encT_mod _
  · rw [dencB, if_neg h]; rfl
theorem ansL_props (ns : List Bs) (S part : Bs) (k : Nat) : ∀ a ∈ ansL ns S part k, a.length ≤ 2048 ∧ a.length % 4 = 0 := by
  intro a ha
  simp only [ansL, List.mem_map] at ha
  obtain ⟨i, -, rfl⟩ := ha
  exact ⟨ansB_len _ _ _ _, encT_mod _⟩
theorem answer_props {sd : Bs} {h n : Int} {ns : List Bs} {lo hi : Int} (h0 : (answerR sd h n ns lo hi).2.2 = 0) : 1 ≤ (answerR sd h n ns lo hi).2.1.length ∧ (answerR sd h n ns lo hi).2.1.length ≤ 16 ∧ ∀ a ∈ (answerR sd h n ns lo hi).2.1, a.length ≤ 2048 ∧ a.length % 4 = 0 := by
  by_cases h1 : bchkC sd h n ns lo hi = 0
  · obtain ⟨-, n1, n2, -, -⟩ := bchk_zero h1
    have e : answerR sd h n ns lo hi = if (signAll sd h n (tBatch ++ partG ns lo hi)).2.2.2.2 = 0 then
      (((signAll sd h n (tBatch ++ partG ns lo hi)).1, (signAll sd h n (tBatch ++ partG ns lo hi)).2.1, (signAll sd h n (tBatch ++ partG ns lo hi)).2.2.1), ansL ns (signAll sd h n (tBatch ++ partG ns lo hi)).2.2.2.1 (partG ns lo hi) ns.length, 0)
    else (([], 0, 0), [], (signAll sd h n (tBatch ++ partG ns lo hi)).2.2.2.2) := by rw [answerR, if_pos h1]
    by_cases h2 : (signAll sd h n (tBatch ++ partG ns lo hi)).2.2.2.2 = 0
    · rw [e, if_pos h2]
      exact ⟨by rw [ansL_len]; exact n1, by rw [ansL_len]; exact n2, ansL_props _ _ _ _⟩
    · rw [e, if_neg h2] at h0
      exact absurd h0 h2
  · rw [answerR, if_neg h1] at h0
    exact absurd h0 h1
theorem wrap_code (a c : Bs) (ha : a.length % 4 = 0) (hc : c.length % 4 = 0) : encC (wrapT a c) = 0 ∨ encC (wrapT a c) = 2 := by
  have h1 : namedG nANSW = true := by decide
  have h2 : namedG nCERT = true := by decide
  have h3 : (Op.bytesLess nANSW [] || nANSW == []) = false := by decide
  have h4 : (Op.bytesLess nCERT nANSW || nCERT == nANSW) = false := by decide
  have hk : checkT [] (wrapT a c) = 0 := by
    unfold wrapT
    rw [checkT, if_pos h1, h3, if_neg (by decide), if_pos ha, checkT, if_pos h2, h4, if_neg (by decide), if_pos hc, checkT]
  unfold encC
  rw [if_neg (by simp [wrapT]), if_pos hk]
  split
  · exact .inr rfl
  · exact .inl rfl
end Go.Proofs.YtkefbjpdpcmpnaaGreat
namespace Go.Proofs.YtkefbjpdpcmpnaaGreat
open Go Go.RowKit
set_option linter.unusedVariables false
set_option linter.unusedSimpArgs false
attribute [local go_sem ↓] Go.wp_at_zero Go.wp_at_succ
theorem SeesL.set7 {W : World} {g B : Nat} {T : TypeId} {a0 a1 a2 a3 a4 a5 a6 u : Value} {ls : List Bs} (h : Box W g T [a0, a1, a2, a3, a4, a5, a6]) (n : NoByte [a0, a1, a2, a3, a4, a5, a6]) (hB : B ≤ W.heap.size) (hu : ∀ k, u.ownBlock = some k → k ≠ g) (x0 x1 x2 x3 x4 x5 x6 : Value) (hs : SeesL W B u ls) : SeesL (((((((W.setCell ⟨g, 0, none⟩ x0).setCell ⟨g, 1, none⟩ x1).setCell ⟨g, 2, none⟩ x2).setCell ⟨g, 3, none⟩ x3).setCell ⟨g, 4, none⟩ x4).setCell ⟨g, 5, none⟩ x5).setCell ⟨g, 6, none⟩ x6) B u ls :=
  hs.over hB hu h n (ggo (ggo (ggo (ggo (ggo (ggo (setCell_grown W g 0 x0) (setCell_grown _ g 1 x1)) (setCell_grown _ g 2 x2)) (setCell_grown _ g 3 x3)) (setCell_grown _ g 4 x4)) (setCell_grown _ g 5 x5)) (setCell_grown _ g 6 x6))
end Go.Proofs.YtkefbjpdpcmpnaaGreat

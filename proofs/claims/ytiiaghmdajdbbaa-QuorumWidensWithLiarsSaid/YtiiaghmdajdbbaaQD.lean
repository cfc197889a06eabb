/- Contracts of sweep.check, sweep.Count (its error), quorum.check, sectimeref34.Check, count, sectimeref35.check. Conditions: the spans are seen, at most 64. -/
import Derived.Test.YtiiaghmdajdbbaaQC
namespace Go.Proofs.Ytiiaghmdajdbbaa
open Go.RowKit
set_option linter.unusedVariables false
set_option linter.unusedSimpArgs false
attribute [local go_sem ↓] Go.wp_at_zero Go.wp_at_succ
/-- All spans are valid. -/
def okV (l : List Sp) : Bool := l.all fun s => vS s.1 s.2
theorem okV_take {l : List Sp} {k : Nat} {s : Sp} (h : l[k]? = some s) : okV (l.take (k + 1)) = (okV (l.take k) && vS s.1 s.2) := by
  rw [List.take_add_one, h]
  unfold okV
  rw [List.all_append]
  simp
theorem okV_each {l : List Sp} (h : okV l = true) : ∀ s ∈ l, vS s.1 s.2 = true := by
  intro s hs
  unfold okV at h
  rw [List.all_eq_true] at h
  exact h s hs
theorem okV_le {l : List Sp} (h : okV l = true) : ∀ s ∈ l, s.1 ≤ s.2 := by
  intro s hs
  have := okV_each h s hs
  rw [vS_eq] at this
  simp at this
  exact this.2
def chkC (l : List Sp) : Int := if okV l = true then 0 else 3
def qchkC (l : List Sp) (f : Int) : Int := if okV l = true then (if 0 ≤ f ∧ 2 * f < l.length then 0 else 4) else 3
theorem chk1_any (lo hi : Int) (w : World) : Calls Try.prog 63 #[.agg #[.int .i64 lo, .int .i64 hi]] w (BoolPost (!vS lo hi) w) := by
  have hva := Lib.hid (fun W => valid_any lo hi W)
  have hal := Lib.hid (balloc w (.cells #[.int .i64 lo, .int .i64 hi] 28))
  have x2 := Box.new w 28 [.int .i64 lo, .int .i64 hi]
  change Box (w.alloc (.cells #[.int .i64 lo, .int .i64 hi] 28)) _ _ _ at x2
  go_enter Try.func63, Try.ntmps63
  go_upto_region 1 with (fail)
  generalize w.alloc (.cells #[.int .i64 lo, .int .i64 hi] 28) = W0 at *
  generalize hgg : w.heap.size = g2 at x2 ⊢
  replace hgg := Lib.hid hgg
  obtain ⟨y0, y1⟩ := boxT2 x2
  go_wp2_with fail
  refine (hva.out _).mono ?_
  rintro e w1 ⟨rfl, hb1⟩
  have hbw := Lib.hid (bgo hal.out hb1)
  clear y0 y1 hb1
  dsimp only
  generalize vS lo hi = q at *
  go_wp2_with fail
  go_ret
  exact ⟨rfl, hbw.out⟩
set_option maxRecDepth 100000 in
theorem idx_any (B : Nat) (u : Value) (l : List Sp) (w : World) (hu : SeesS w B u l) (hB : B ≤ w.heap.size) (hn : l.length ≤ 64) :
    Calls Try.prog 73 #[u, .func (.func 63) #[] #[]] w fun e w' => (∃ i : Int, e = .returned (.int .i64 i) ∧ decide (0 ≤ i) = !(okV l)) ∧ Below w.heap.size w w' := by
  obtain ⟨A, c, rfl, -, -⟩ := hu.mk_
  replace hu := Lib.hid hu
  go_enter Try.func73, Try.ntmps73
  go_wp2_with fail
  go_loopw [8] (fun t wr => ∃ k : Nat, k ≤ l.length ∧ t = .int .i64 k ∧ Hid (okV (l.take k) = true) ∧ Hid (Below w.heap.size w wr)) (fun t _ => l.length - (intOf t).toNat)
  case atStart => exact ⟨0, by omega, rfl, rfl, Below.refl _ _⟩
  case round =>
    obtain ⟨k, hk, rfl, ha, hb⟩ := hrel
    by_cases hlt : k < l.length
    · obtain ⟨b, o, rfl, hbB, hds⟩ := (hu.out.below (hb.out.mono hB)).at_ (by omega)
      obtain ⟨s, hs⟩ : ∃ s, l[k]? = some s := ⟨_, List.getElem?_eq_getElem hlt⟩
      obtain ⟨c0, c1⟩ := hds k s hs
      have hst := Lib.hid (okV_take hs)
      have hmem : Hid (s ∈ l) := by show _ ∈ _; exact List.mem_of_getElem? hs
      obtain ⟨lo, hi⟩ := s
      dsimp only at c0 c1
      have i0 : (k : Int) < (l.length : Int) := by omega
      have hc1 := Lib.hid (fun W => chk1_any lo hi W)
      replace hs := Lib.hid hs
      clear hds
      go_wp2_with fail
      refine (hc1.out wr).mono ?_
      rintro e w1 ⟨rfl, hb1⟩
      replace hb := Lib.hid (bgo hb.out hb1)
      clear hb1 c0 c1
      dsimp only
      cases hv : vS lo hi with
      | true =>
        have hst2 : Hid (okV (l.take (k + 1)) = true) := by show _ = _; rw [hst.out, ha.out]; exact hv
        replace hv := Lib.hid hv
        go_wp2_with fail
        go_roundw
        case rel => exact ⟨k + 1, by omega, by go_num, hst2, hb⟩
        case measure => simp [intOf]; omega
      | false =>
        have hno : Hid (okV l = false) := by
          show _ = _
          cases h : okV l with
          | false => rfl
          | true => have := okV_each h _ hmem.out; rw [hv] at this; cases this
        replace hv := Lib.hid hv
        go_wp2_with fail
        go_returns
        exact ⟨⟨_, rfl, by rw [hno.out]; simp⟩, hb.out⟩
    · have i0 : ¬ (k : Int) < (l.length : Int) := by omega
      rw [List.take_of_length_le (by omega)] at ha
      go_wp2_with fail
      go_returns
      exact ⟨⟨_, rfl, by rw [ha.out]; rfl⟩, hb.out⟩
theorem cont_any (B : Nat) (u : Value) (l : List Sp) (w : World) (hu : SeesS w B u l) (hB : B ≤ w.heap.size) (hn : l.length ≤ 64) :
    Calls Try.prog 62 #[u, .func (.func 63) #[] #[]] w (BoolPost (!(okV l)) w) := by
  have hi := Lib.hid (idx_any B u l w hu hB hn)
  obtain ⟨A, c, rfl, -, -⟩ := hu.mk_
  clear hu
  go_enter Try.func62, Try.ntmps62
  go_wp2_with fail
  refine hi.out.mono ?_
  rintro e w1 ⟨⟨i, rfl, hd⟩, hb⟩
  replace hd := Lib.hid hd
  dsimp only
  go_wp2_with fail
  go_ret
  exact ⟨ret_bool hd.out, hb⟩
def ErrP (c : Int) (w : World) (e : Ending) (w' : World) : Prop := e = .returned (.int .i64 c) ∧ Below w.heap.size w w'
theorem scheck_any (B : Nat) (u : Value) (l : List Sp) (w : World) (hu : SeesS w B u l) (hB : B ≤ w.heap.size) (hn : l.length ≤ 64) :
    Calls Try.prog 45 #[u] w (ErrP (chkC l) w) := by
  have hi := Lib.hid (cont_any B u l w hu hB hn)
  obtain ⟨A, c, rfl, -, -⟩ := hu.mk_
  clear hu
  unfold chkC
  have i0 : ¬ (64 : Int) < (l.length : Int) := by omega
  generalize okV l = q at *
  cases q with
  | false =>
    have hr : Hid ((if false = true then (0 : Int) else 3) = 3) := by show _ = _; simp
    rw [hr.out]
    go_enter Try.func45, Try.ntmps45
    go_wp2_with fail
    refine hi.out.mono ?_
    rintro e w1 ⟨rfl, hb⟩
    replace hb := Lib.hid hb
    dsimp only
    go_wp2_with fail
    go_ret
    exact ⟨rfl, hb.out⟩
  | true =>
    have hr : Hid ((if true = true then (0 : Int) else 3) = 0) := by show _ = _; simp
    rw [hr.out]
    go_enter Try.func45, Try.ntmps45
    go_wp2_with fail
    refine hi.out.mono ?_
    rintro e w1 ⟨rfl, hb⟩
    replace hb := Lib.hid hb
    dsimp only
    go_wp2_with fail
    go_ret
    exact ⟨rfl, hb.out⟩
set_option maxRecDepth 100000 in
theorem rcheck_any (B : Nat) (u : Value) (l : List Sp) (w : World) (hu : SeesS w B u l) (hB : B ≤ w.heap.size) (hn : l.length ≤ 64) :
    Calls Try.prog 41 #[u] w (ErrP (chkC l) w) := by
  obtain ⟨A, c, rfl, -, -⟩ := hu.mk_
  replace hu := Lib.hid hu
  go_enter Try.func41, Try.ntmps41
  go_wp2_with fail
  go_loopw [3] (fun t wr => ∃ k : Nat, k ≤ l.length ∧ t = .int .i64 k ∧ Hid (okV (l.take k) = true) ∧ Hid (Below w.heap.size w wr)) (fun t _ => l.length - (intOf t).toNat)
  case atStart => exact ⟨0, by omega, rfl, rfl, Below.refl _ _⟩
  case round =>
    obtain ⟨k, hk, rfl, ha, hb⟩ := hrel
    by_cases hlt : k < l.length
    · obtain ⟨b, o, rfl, hbB, hds⟩ := (hu.out.below (hb.out.mono hB)).at_ (by omega)
      obtain ⟨s, hs⟩ : ∃ s, l[k]? = some s := ⟨_, List.getElem?_eq_getElem hlt⟩
      obtain ⟨c0, c1⟩ := hds k s hs
      have hst := Lib.hid (okV_take hs)
      have hmem : Hid (s ∈ l) := by show _ ∈ _; exact List.mem_of_getElem? hs
      obtain ⟨lo, hi⟩ := s
      dsimp only at c0 c1
      have i0 : (k : Int) < (l.length : Int) := by omega
      have hc1 := Lib.hid (fun W => rvalid_any lo hi W)
      replace hs := Lib.hid hs
      clear hds
      go_wp2_with fail
      refine (hc1.out wr).mono ?_
      rintro e w1 ⟨rfl, hb1⟩
      replace hb := Lib.hid (bgo hb.out hb1)
      clear hb1 c0 c1
      dsimp only
      cases hv : vS lo hi with
      | true =>
        have hst2 : Hid (okV (l.take (k + 1)) = true) := by show _ = _; rw [hst.out, ha.out]; exact hv
        replace hv := Lib.hid hv
        go_wp2_with fail
        go_roundw
        case rel => exact ⟨k + 1, by omega, by go_num, hst2, hb⟩
        case measure => simp [intOf]; omega
      | false =>
        have hno : Hid (okV l = false) := by
          show _ = _
          cases h : okV l with
          | false => rfl
          | true => have := okV_each h _ hmem.out; rw [hv] at this; cases this
        replace hv := Lib.hid hv
        go_wp2_with fail
        go_returns
        exact ⟨ret_int (by unfold chkC; rw [hno.out]; rfl), hb.out⟩
    · have i0 : ¬ (k : Int) < (l.length : Int) := by omega
      rw [List.take_of_length_le (by omega)] at ha
      go_wp2_with fail
      go_returns
      exact ⟨ret_int (by unfold chkC; rw [ha.out]; rfl), hb.out⟩
theorem cnt_take {l : List Sp} {k : Nat} {s : Sp} {t : Int} (h : l[k]? = some s) : cnt (l.take (k + 1)) t = cnt (l.take k) t + if hol t s = true then 1 else 0 := by
  unfold cnt
  rw [List.take_add_one, h, List.countP_append]
  simp [List.countP_cons]
set_option maxRecDepth 100000 in
theorem rcount_any (B : Nat) (u : Value) (l : List Sp) (t : Int) (w : World) (hu : SeesS w B u l) (hB : B ≤ w.heap.size) (hn : l.length ≤ 64) (hok : okV l = true) :
    Calls Try.prog 66 #[u, .int .i64 t] w (ErrP (cnt l t) w) := by
  obtain ⟨A, c, rfl, -, -⟩ := hu.mk_
  replace hu := Lib.hid hu
  replace hok := Lib.hid hok
  go_enter Try.func66, Try.ntmps66
  go_wp2_with fail
  go_loopw [5, 6] (fun n i wr => ∃ k : Nat, k ≤ l.length ∧ i = .int .i64 k ∧ n = .int .i64 ((cnt (l.take k) t : Nat) : Int) ∧ Hid (Below w.heap.size w wr)) (fun _ i _ => l.length - (intOf i).toNat)
  case atStart => exact ⟨0, by omega, rfl, rfl, Below.refl _ _⟩
  case round =>
    obtain ⟨k, hk, rfl, rfl, hb⟩ := hrel
    by_cases hlt : k < l.length
    · obtain ⟨b, o, rfl, hbB, hds⟩ := (hu.out.below (hb.out.mono hB)).at_ (by omega)
      obtain ⟨s, hs⟩ : ∃ s, l[k]? = some s := ⟨_, List.getElem?_eq_getElem hlt⟩
      obtain ⟨c0, c1⟩ := hds k s hs
      have hst := Lib.hid (cnt_take (t := t) hs)
      have hcl : cnt (l.take k) t ≤ k := Nat.le_trans (cnt_le _ _) (List.length_take_le _ _)
      have hv := okV_each hok.out s (List.mem_of_getElem? hs)
      obtain ⟨lo, hi⟩ := s
      dsimp only at c0 c1 hv
      have hh := Lib.hid (hdB_hol hv t)
      have i0 : (k : Int) < (l.length : Int) := by omega
      have hc1 := Lib.hid (fun W => rholds_any lo hi t W)
      replace hs := Lib.hid hs
      replace hv := Lib.hid hv
      clear hds
      generalize hq : cnt (l.take k) t = q at *
      replace hq := Lib.hid hq
      go_wp2_with fail
      refine (hc1.out wr).mono ?_
      rintro e w1 ⟨rfl, hb1⟩
      replace hb := Lib.hid (bgo hb.out hb1)
      clear hb1 c0 c1
      dsimp only
      rw [hh.out]
      cases hv : hol t (lo, hi) with
      | true =>
        have hst2 : Hid (cnt (l.take (k + 1)) t = q + 1) := by show _ = _; rw [hst.out, if_pos hv]
        replace hv := Lib.hid hv
        go_wp2_with fail
        go_roundw
        case rel => exact ⟨k + 1, by omega, by go_num, by rw [hst2.out]; go_num, hb⟩
        case measure => simp [intOf]; omega
      | false =>
        have hst2 : Hid (cnt (l.take (k + 1)) t = q) := by show _ = _; rw [hst.out, hv]; simp
        replace hv := Lib.hid hv
        go_wp2_with fail
        go_roundw
        case rel => exact ⟨k + 1, by omega, by go_num, by rw [hst2.out], hb⟩
        case measure => simp [intOf]; omega
    · have i0 : ¬ (k : Int) < (l.length : Int) := by omega
      rw [List.take_of_length_le (by omega)]
      go_wp2_with fail
      go_returns
      exact ⟨rfl, hb.out⟩
def CountP (c : Int) (w : World) (e : Ending) (w' : World) : Prop := ∃ n : Int, e = .returned (.tuple #[.int .i64 n, .int .i64 c]) ∧ Below w.heap.size w w'
set_option maxRecDepth 100000 in
theorem count_any (B : Nat) (u : Value) (l : List Sp) (t : Int) (w : World) (hu : SeesS w B u l) (hB : B ≤ w.heap.size) (hn : l.length ≤ 64) :
    Calls Try.prog 37 #[u, .int .i64 t] w (CountP (chkC l) w) := by
  have hck := scheck_any B u l w hu hB hn
  obtain ⟨A, c, rfl, -, -⟩ := hu.mk_
  replace hu := Lib.hid hu
  unfold chkC at *
  cases hok : okV l with
  | false =>
    rw [hok] at hck
    replace hck := Lib.hid hck
    replace hok := Lib.hid hok
    go_enter Try.func37, Try.ntmps37
    go_wp2_with fail
    refine hck.out.mono ?_
    rintro e w1 ⟨rfl, hb⟩
    replace hb := Lib.hid hb
    dsimp only
    simp only [Bool.false_eq_true, if_false]
    go_wp2_with fail
    go_returns
    exact ⟨0, rfl, hb.out⟩
  | true =>
    rw [hok] at hck
    replace hck := Lib.hid hck
    replace hok := Lib.hid hok
    go_enter Try.func37, Try.ntmps37
    go_wp2_with fail
    refine hck.out.mono ?_
    rintro e w1 ⟨rfl, hb⟩
    replace hb := Lib.hid hb
    clear hck
    dsimp only
    simp only [if_true]
    go_wp2_with fail
    go_loopw [7, 9, 17] (fun n _ i wr => ∃ k q : Nat, k ≤ l.length ∧ i = .int .i64 k ∧ n = .int .i64 (q : Int) ∧ q ≤ k ∧ Hid (Below w.heap.size w wr)) (fun _ _ i _ => l.length - (intOf i).toNat)
    case atStart => exact ⟨0, 0, by omega, rfl, rfl, by omega, hb⟩
    case round =>
      obtain ⟨k, q, hk, rfl, rfl, hq, hb⟩ := hrel
      by_cases hlt : k < l.length
      · obtain ⟨b, o, rfl, hbB, hds⟩ := (hu.out.below (hb.out.mono hB)).at_ (by omega)
        obtain ⟨s, hs⟩ : ∃ s, l[k]? = some s := ⟨_, List.getElem?_eq_getElem hlt⟩
        obtain ⟨c0, c1⟩ := hds k s hs
        obtain ⟨lo, hi⟩ := s
        dsimp only at c0 c1
        have i0 : (k : Int) < (l.length : Int) := by omega
        have i1 : (0 : Int) ≤ (k : Int) := by omega
        have hc1 := Lib.hid (fun W => holds_any lo hi t W)
        have x9 := Box.new wr 28 [.int .i64 lo, .int .i64 hi]
        change Box (wr.alloc (.cells #[.int .i64 lo, .int .i64 hi] 28)) _ _ _ at x9
        have hb2 := Lib.hid (bgo hb.out (balloc wr (.cells #[.int .i64 lo, .int .i64 hi] 28)))
        replace hs := Lib.hid hs
        clear hds
        go_upto_region 8 with (fail)
        generalize wr.alloc (.cells #[.int .i64 lo, .int .i64 hi] 28) = W1 at *
        generalize wr.heap.size = g9 at *
        clear c0 c1 hb
        obtain ⟨y0, y1⟩ := boxT2 x9
        go_wp2_with fail
        refine (hc1.out W1).mono ?_
        rintro e w1 ⟨rfl, hb1⟩
        replace hb := Lib.hid (bgo hb2.out hb1)
        clear hb1 y0 y1 x9 hb2
        dsimp only
        generalize hdB lo hi t = p at *
        cases p with
        | true =>
          go_wp2_with fail
          go_roundw
          case rel => exact ⟨k + 1, q + 1, by omega, by go_num, by go_num, by omega, hb⟩
          case measure => simp [intOf]; omega
        | false =>
          go_wp2_with fail
          go_roundw
          case rel => exact ⟨k + 1, q, by omega, by go_num, rfl, by omega, hb⟩
          case measure => simp [intOf]; omega
      · have i0 : ¬ (k : Int) < (l.length : Int) := by omega
        go_wp2_with fail
        go_returns
        exact ⟨_, rfl, hb.out⟩
set_option maxRecDepth 100000 in
theorem qcheck_any (B : Nat) (u : Value) (l : List Sp) (f : Int) (w : World) (hu : SeesS w B u l) (hB : B ≤ w.heap.size) (hn : l.length ≤ 64) :
    Calls Try.prog 27 #[u, .int .i64 f] w (ErrP (qchkC l f) w) := by
  have hct := count_any B u l 0 w hu hB hn
  obtain ⟨A, c, rfl, -, -⟩ := hu.mk_
  clear hu
  unfold qchkC
  unfold chkC at hct
  cases hok : okV l with
  | false =>
    rw [hok] at hct
    replace hct := Lib.hid hct
    replace hok := Lib.hid hok
    go_enter Try.func27, Try.ntmps27
    go_wp2_with fail
    refine hct.out.mono ?_
    rintro e w1 ⟨n, rfl, hb⟩
    replace hb := Lib.hid hb
    dsimp only
    simp only [Bool.false_eq_true, if_false]
    go_wp2_with fail
    go_ret
    exact ⟨rfl, hb.out⟩
  | true =>
    rw [hok] at hct
    replace hct := Lib.hid hct
    replace hok := Lib.hid hok
    simp only [if_true]
    generalize hN : l.length = N at *
    replace hN := Lib.hid hN
    by_cases h0 : f < 0
    · have hr : Hid ((if 0 ≤ f ∧ 2 * f < (N : Int) then (0 : Int) else 4) = 4) := if_neg (by omega)
      rw [hr.out]
      go_enter Try.func27, Try.ntmps27
      go_wp2_with fail
      refine hct.out.mono ?_
      rintro e w1 ⟨n, rfl, hb⟩
      replace hb := Lib.hid hb
      dsimp only
      simp only [if_true]
      go_wp2_with fail
      go_ret
      exact ⟨rfl, hb.out⟩
    · by_cases h1 : (N : Int) < f
      · have hr : Hid ((if 0 ≤ f ∧ 2 * f < (N : Int) then (0 : Int) else 4) = 4) := if_neg (by omega)
        rw [hr.out]
        go_enter Try.func27, Try.ntmps27
        go_wp2_with fail
        refine hct.out.mono ?_
        rintro e w1 ⟨n, rfl, hb⟩
        replace hb := Lib.hid hb
        dsimp only
        simp only [if_true]
        go_wp2_with fail
        go_ret
        exact ⟨rfl, hb.out⟩
      · by_cases h2 : 2 * f < (N : Int)
        · have hr : Hid ((if 0 ≤ f ∧ 2 * f < (N : Int) then (0 : Int) else 4) = 0) := if_pos (by omega)
          rw [hr.out]
          go_enter Try.func27, Try.ntmps27
          go_wp2_with fail
          refine hct.out.mono ?_
          rintro e w1 ⟨n, rfl, hb⟩
          replace hb := Lib.hid hb
          dsimp only
          simp only [if_true]
          go_wp2_with fail
          go_ret
          exact ⟨rfl, hb.out⟩
        · have hr : Hid ((if 0 ≤ f ∧ 2 * f < (N : Int) then (0 : Int) else 4) = 4) := if_neg (by omega)
          rw [hr.out]
          go_enter Try.func27, Try.ntmps27
          go_wp2_with fail
          refine hct.out.mono ?_
          rintro e w1 ⟨n, rfl, hb⟩
          replace hb := Lib.hid hb
          dsimp only
          simp only [if_true]
          go_wp2_with fail
          go_ret
          exact ⟨rfl, hb.out⟩
set_option maxRecDepth 100000 in
theorem rqcheck_any (B : Nat) (u : Value) (l : List Sp) (f : Int) (w : World) (hu : SeesS w B u l) (hB : B ≤ w.heap.size) (hn : l.length ≤ 64) :
    Calls Try.prog 31 #[u, .int .i64 f] w (ErrP (qchkC l f) w) := by
  have hct := rcheck_any B u l w hu hB hn
  obtain ⟨A, c, rfl, -, -⟩ := hu.mk_
  clear hu
  unfold qchkC
  unfold chkC at hct
  cases hok : okV l with
  | false =>
    rw [hok] at hct
    replace hct := Lib.hid hct
    replace hok := Lib.hid hok
    go_enter Try.func31, Try.ntmps31
    go_wp2_with fail
    refine hct.out.mono ?_
    rintro e w1 ⟨rfl, hb⟩
    replace hb := Lib.hid hb
    dsimp only
    simp only [Bool.false_eq_true, if_false]
    go_wp2_with fail
    go_ret
    exact ⟨rfl, hb.out⟩
  | true =>
    rw [hok] at hct
    replace hct := Lib.hid hct
    replace hok := Lib.hid hok
    simp only [if_true]
    generalize hN : l.length = N at *
    replace hN := Lib.hid hN
    by_cases h0 : f < 0
    · have hr : Hid ((if 0 ≤ f ∧ 2 * f < (N : Int) then (0 : Int) else 4) = 4) := if_neg (by omega)
      rw [hr.out]
      go_enter Try.func31, Try.ntmps31
      go_wp2_with fail
      refine hct.out.mono ?_
      rintro e w1 ⟨rfl, hb⟩
      replace hb := Lib.hid hb
      dsimp only
      simp only [if_true]
      go_wp2_with fail
      go_ret
      exact ⟨rfl, hb.out⟩
    · by_cases h1 : (N : Int) ≤ f
      · have hr : Hid ((if 0 ≤ f ∧ 2 * f < (N : Int) then (0 : Int) else 4) = 4) := if_neg (by omega)
        rw [hr.out]
        go_enter Try.func31, Try.ntmps31
        go_wp2_with fail
        refine hct.out.mono ?_
        rintro e w1 ⟨rfl, hb⟩
        replace hb := Lib.hid hb
        dsimp only
        simp only [if_true]
        go_wp2_with fail
        go_ret
        exact ⟨rfl, hb.out⟩
      · by_cases h2 : 2 * f < (N : Int)
        · have hr : Hid ((if 0 ≤ f ∧ 2 * f < (N : Int) then (0 : Int) else 4) = 0) := if_pos (by omega)
          rw [hr.out]
          go_enter Try.func31, Try.ntmps31
          go_wp2_with fail
          refine hct.out.mono ?_
          rintro e w1 ⟨rfl, hb⟩
          replace hb := Lib.hid hb
          dsimp only
          simp only [if_true]
          go_wp2_with fail
          go_ret
          exact ⟨rfl, hb.out⟩
        · have hr : Hid ((if 0 ≤ f ∧ 2 * f < (N : Int) then (0 : Int) else 4) = 4) := if_neg (by omega)
          rw [hr.out]
          go_enter Try.func31, Try.ntmps31
          go_wp2_with fail
          refine hct.out.mono ?_
          rintro e w1 ⟨rfl, hb⟩
          replace hb := Lib.hid hb
          dsimp only
          simp only [if_true]
          go_wp2_with fail
          go_ret
          exact ⟨rfl, hb.out⟩
end Go.Proofs.Ytiiaghmdajdbbaa

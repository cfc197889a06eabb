/- A piece of my texts, cut out by slice.py: what a claim leans on. -/
import Derived.Test.YtamdgjgommejjaaGreatDBc
namespace Go.Proofs.YtamdgjgommejjaaGreat
section
open Go.RowKit
set_option linter.unusedVariables false
attribute [local go_sem ↓] Go.wp_at_zero Go.wp_at_succ
/-- The cells of tag k. -/
theorem tag_at {w : World} {B n c : Nat} {A : Option Addr} {ts : List (Bs × Bs)} (h : SeesR w B (.slice A n c) 2 n (tagS ts)) (k : Nat) (t : Bs × Bs) (hk : ts[k]? = some t) :
    ∃ b o A' c', A = some ⟨b, o, none⟩ ∧ b < B ∧ w.cell? ⟨b, o + k * 2, none⟩ = some (.string (strB t.1)) ∧ w.cell? ⟨b, o + k * 2 + 1, none⟩ = some (.slice A' t.2.length c') ∧ SeesB w B (.slice A' t.2.length c') t.2 := by
  have hl := h.1
  rw [tagS_len] at hl
  have hkl := (List.getElem?_eq_some_iff.1 hk).1
  obtain ⟨b, o, e, hb, hc⟩ := h.at_ (by omega)
  obtain ⟨g1, g2⟩ := tagS_get ts k t hk
  rw [Nat.mul_comm 2 k] at g1 g2
  obtain ⟨u1, c1, f1⟩ := hc _ _ g1
  obtain ⟨u2, c2, f2⟩ := hc _ _ g2
  obtain ⟨rfl, -⟩ := f1
  have f2 : SeesB w B u2 t.2 := f2
  obtain ⟨A', c', rfl, -, -⟩ := f2.mk_
  exact ⟨b, o, A', c', e, hb, c1, by rw [Nat.add_assoc]; exact c2, f2⟩
set_option maxRecDepth 100000 in
theorem tcheck_any (B : Nat) (u : Value) (ts : List (Bs × Bs)) (w : World) (hu : SeesR w B u 2 ts.length (tagS ts)) (hB : B ≤ w.heap.size) (hn : ts.length ≤ 1048576) :
    Calls Tryz.prog 54 #[u] w fun e w' => e = .returned (.int .i64 (checkT [] ts)) ∧ Below w.heap.size w w' := by
  obtain ⟨A, c, rfl, -, -⟩ := hu.mk_
  replace hu := Lib.hid hu
  go_enter Tryz.func54, Tryz.ntmps54
  go_wp2_with fail
  go_loopw [3, 5, 8, 12, 17, 22] (fun v _ t _ _ _ wr => ∃ (k : Nat) (last : Bs), k ≤ ts.length ∧ t = .int .i64 k ∧ v = .string (strB last) ∧ Hid (checkT last (ts.drop k) = checkT [] ts) ∧ Hid (Below w.heap.size w wr)) (fun _ _ t _ _ _ _ => ts.length - (intOf t).toNat)
  case atStart => exact ⟨0, [], by omega, rfl, rfl, rfl, Below.refl _ _⟩
  case round =>
    obtain ⟨k, last, hk, rfl, rfl, hch, hb⟩ := hrel
    by_cases hlt : k < ts.length
    · obtain ⟨t, ht⟩ : ∃ t, ts[k]? = some t := ⟨ts[k], List.getElem?_eq_getElem hlt⟩
      obtain ⟨b, o, A', c', rfl, hbB, x0, x1, -⟩ := tag_at (hu.out.below (hb.out.mono hB)) k t ht
      have hnm := fun W => named_any t.1 W
      have hcm := Lib.hid (checkT_step ts k t last ht)
      have hcn := Lib.hid (checkT_name ts k t last ht)
      have hco := Lib.hid (checkT_order ts k t last ht)
      have hcf := Lib.hid (checkT_form ts k t last ht)
      have l1 := strB_toList t.1
      have l2 := strB_toList last
      obtain ⟨nm, da⟩ := t
      dsimp only at hnm hcm hcn hco hcf l1 l2 x0 x1
      have i0 : (k : Int) < (ts.length : Int) := by omega
      have hbA := balloc wr (.cells #[.string (strB nm), .slice A' da.length c'] 92)
      have hx := Box.new wr 92 [.string (strB nm), .slice A' da.length c']
      change Box (wr.alloc (.cells #[.string (strB nm), .slice A' da.length c'] 92)) _ _ _ at hx
      replace hb := Lib.hid (bgo hb.out hbA)
      replace ht := Lib.hid ht
      clear hbA
      generalize hS1 : strB nm = S1 at *
      replace hS1 := Lib.hid hS1
      generalize strB last = S2 at *
      cases hV : namedG nm with
      | false =>
        have hend := hcn.out hV
        rw [hch.out] at hend
        rw [hV] at hnm
        replace hnm := Lib.hid hnm
        replace hend := Lib.hid hend
        go_wp2_with fail
        refine (hnm.out _).mono ?_
        rintro e w2 ⟨rfl, hb2⟩
        dsimp only
        go_wp2_with fail
        go_returns
        exact ⟨by rw [hend.out]; rfl, bgo hb.out hb2⟩
      | true =>
        rw [hV] at hnm
        replace hnm := Lib.hid hnm
        go_wp2_with fail
        refine (hnm.out _).mono ?_
        rintro e w2 ⟨rfl, hb2⟩
        replace hx := hx.below hb2
        replace hb := Lib.hid (bgo hb.out hb2)
        generalize hG : wr.heap.size = G at hx ⊢
        have y0 := hx.cell 0
        have y1 := hx.cell 1
        simp only [List.getElem?_cons_zero, List.getElem?_cons_succ] at y0 y1
        replace hG := Lib.hid hG
        clear x0 x1
        dsimp only
        cases hp : Op.bytesLess nm last with
        | true =>
          have hend := hco.out hV (by rw [hp, Bool.true_or])
          rw [hch.out] at hend
          replace hend := Lib.hid hend
          go_wp2_with fail
          go_returns
          exact ⟨by rw [hend.out]; rfl, hb.out⟩
        | false =>
          cases hq : (nm == last) with
          | true =>
            have hend := hco.out hV (by rw [hp, hq]; rfl)
            rw [hch.out] at hend
            replace hend := Lib.hid hend
            go_wp2_with fail
            go_returns
            exact ⟨by rw [hend.out]; rfl, hb.out⟩
          | false =>
            have hD : (Op.bytesLess nm last || nm == last) = false := by rw [hp, hq]; rfl
            by_cases h4 : da.length % 4 = 0
            · have hend := Lib.hid (hcm.out hV hD h4)
              have i4 : ((da.length : Nat) : Int) % 4 = 0 := by omega
              replace h4 := Lib.hid h4
              replace hD := Lib.hid hD
              go_wp2_with fail
              go_roundw
              case rel => exact ⟨k + 1, nm, by omega, by go_num, by rw [hS1.out], by show _ = _; rw [← hend.out, hch.out], hb⟩
              case measure => simp [intOf]; omega
            · have hend := hcf.out hV hD h4
              rw [hch.out] at hend
              have i4 : ¬ (((da.length : Nat) : Int) % 4 = 0) := by omega
              replace hend := Lib.hid hend
              replace h4 := Lib.hid h4
              replace hD := Lib.hid hD
              go_wp2_with fail
              go_returns
              exact ⟨by rw [hend.out]; rfl, hb.out⟩
    · have hend : Hid (checkT [] ts = 0) := by
        show _ = _
        rw [← hch.out, List.drop_eq_nil_of_le (by omega)]
        rfl
      have i0 : ¬ (k : Int) < (ts.length : Int) := by omega
      go_wp2_with fail
      go_returns
      exact ⟨by rw [hend.out]; rfl, hb.out⟩
end
section
open Go.RowKit
set_option linter.unusedVariables false
attribute [local go_sem ↓] Go.wp_at_zero Go.wp_at_succ
theorem placeN_lt (b : Bs) (i : Nat) (h : 4 * i + 4 ≤ b.length) : placeN b i < 4294967296 := by
  unfold placeN
  exact getB_lt4 _ (by rw [List.length_take, List.length_drop]; omega)
set_option maxRecDepth 100000 in
theorem number_any (B : Nat) (u : Value) (b : Bs) (i : Nat) (w : World) (hu : SeesB w B u b) (hi : 4 * i + 4 ≤ b.length) (hb : b.length ≤ 4096) :
    Calls Tryz.prog 52 #[u, .int .i64 (i : Int)] w fun e w' => e = .returned (.int .i64 (placeN b i : Int)) ∧ w' = w := by
  obtain ⟨A, c, rfl, hc1, hc2⟩ := hu.mk_
  have hr := run_cut (P := Tryz.prog) 23 Tryz.underlying23 1 byte_size A b.length c .i64 .i64 (4 * (i : Int)) (4 * (i : Int) + 4) (by omega) (by omega) (by omega)
  rw [show (4 * (i : Int)).toNat = 4 * i from by omega, show (4 * (i : Int) + 4).toNat = 4 * i + 4 from by omega] at hr
  have hcut := SeesB.cut (a := 4 * i) (b := 4 * i + 4) hu (by omega) hi
  rw [show 4 * i + 4 - 4 * i = 4 by omega] at hcut hr
  have hg := Lib.hid (get_any B _ _ w hcut)
  have hlt := placeN_lt b i hi
  have hp : Hid (getB ((b.drop (4 * i)).take 4) = placeN b i) := rfl
  generalize getB ((b.drop (4 * i)).take 4) = p at *
  have hp' := hp.out
  rw [← hp'] at hlt ⊢
  have hw : IntKind.i64.wrap (p : Int) = (p : Int) := by rw [IntKind.wrap_i64]; omega
  generalize cutA A c (4 * i) 1 = A2 at *
  generalize c - 4 * i = c2 at *
  replace hp' := Lib.hid hp'
  clear hcut hu
  go_enter Tryz.func52, Tryz.ntmps52
  go_wp2_with fail
  refine hg.out.mono ?_
  rintro e w0 ⟨rfl, rfl⟩
  dsimp only
  go_wp2_with fail
  go_ret
  exact ⟨rfl, rfl⟩
theorem placesOk_no (b : Bs) (size j m : Nat) (h : placesOk b size j = false) (hm : j ≤ m) : placesOk b size m = false := by
  induction m with
  | zero => rw [show j = 0 by omega] at h; exact h
  | succ m ih =>
    by_cases hj : j = m + 1
    · rw [← hj]; exact h
    · rw [placesOk, ih (by omega), Bool.false_and]
/-- What rough.places returns. -/
def PlacesP (b : Bs) (n size : Nat) (w : World) (e : Ending) (w' : World) : Prop :=
  (placesOk b size (n - 1) = true ∧ ∃ v, e = .returned (.tuple #[v, .bool (decide (size % 4 = 0))]) ∧ OwnI w' w.heap.size v ((List.range n).map (fromN b) ++ [size]) ∧ Below w.heap.size w w') ∨
  (placesOk b size (n - 1) = false ∧ e = .returned (.tuple #[.slice none 0 0, .bool false]) ∧ Below w.heap.size w w')
theorem range_step (b : Bs) (k : Nat) : (List.range (k + 1)).map (fromN b) = (List.range k).map (fromN b) ++ [fromN b k] := by
  rw [List.range_succ, List.map_append]; rfl
set_option maxRecDepth 100000 in
theorem places_any (B : Nat) (u : Value) (b : Bs) (n size : Nat) (w : World) (hu : SeesB w B u b) (hB : B ≤ w.heap.size) (h1 : 1 ≤ n) (h2 : n ≤ 16) (hn : 4 * n ≤ b.length) (hb : b.length ≤ 4096) (hs : size ≤ 4096) :
    Calls Tryz.prog 53 #[u, .int .i64 (n : Int), .int .i64 (size : Int)] w (PlacesP b n size w) := by
  obtain ⟨A, c, rfl, hc1, hc2⟩ := hu.mk_
  have hnum := Lib.hid (fun W (hW : Below w.heap.size w W) (i : Nat) (hi : 4 * i + 4 ≤ b.length) => number_any B _ b i W (hu.below (hW.mono hB)) hi hb)
  replace hb := Lib.hid hb
  clear hu
  go_enter Tryz.func53, Tryz.ntmps53
  go_wp2_with fail
  refine wp_fresh (fun W => OwnI W w.heap.size (.slice (some ⟨w.heap.size, 0, none⟩) 1 1) [0] ∧ Below w.heap.size w W) ⟨?_, balloc w _⟩ ?_
  · exact World.ownsRow_lit (base := w.heap.size) (size := 1) w #[.int .i64 0] 1 (Nat.le_refl _) (by simp [maxLen]) rfl
  rintro W1 ⟨ho, hbw⟩
  replace ho := Lib.hid ho
  replace hbw := Lib.hid hbw
  go_loopw [8, 9, 10] (fun r t _ wr => ∃ j : Nat, j < n ∧ t = .int .i64 ((j : Int) + 1) ∧ Hid (OwnI wr w.heap.size r ((List.range (j + 1)).map (fromN b))) ∧ Hid (placesOk b size j = true) ∧ Hid (Below w.heap.size w wr)) (fun _ t _ _ => n - (intOf t).toNat)
  case atStart => exact ⟨0, by omega, rfl, ho, rfl, hbw⟩
  case round =>
    clear ho hbw
    obtain ⟨j, hj, rfl, ho, hok, hbw⟩ := hrel
    have hsee := ho.out.sees
    have hrl : ((List.range (j + 1)).map (fromN b)).length = j + 1 := by simp
    obtain ⟨Ar, cr, rfl, -, -⟩ := hsee.mk_
    obtain ⟨g, o, rfl, hgB, hcell⟩ := hsee.at_ (by rw [hrl]; omega)
    have x0 := hcell j (by rw [hrl]; omega)
    have hgd : ((List.range (j + 1)).map (fromN b)).getD j 0 = fromN b j := by simp [List.getD_eq_getElem?_getD]
    rw [hgd] at x0
    have hrs := Lib.hid (range_step b (j + 1))
    have i1 : (j : Int) < ((((List.range (j + 1)).map (fromN b)).length : Nat) : Int) := by rw [hrl]; omega
    replace hrl := Lib.hid hrl
    clear hgd hcell hsee
    by_cases hlt : j + 1 < n
    · have i0 : (j : Int) + 1 < (n : Int) := by omega
      have hq := Lib.hid (hnum.out wr hbw.out (j + 1) (by omega))
      rw [show ((j + 1 : Nat) : Int) = (j : Int) + 1 by omega] at hq
      have hplt := placeN_lt b (j + 1) (by omega)
      have hstep : Hid (placesOk b size (j + 1) = (placesOk b size j && (decide (placeN b (j + 1) % 4 = 0) && decide (fromN b j ≤ placeN b (j + 1)) && decide (placeN b (j + 1) ≤ size)))) := rfl
      have hfr : Hid (fromN b (j + 1) = placeN b (j + 1)) := by show _ = _; simp [fromN]
      rw [hfr.out] at hrs
      have hno1 : Hid (placesOk b size (j + 1) = false → placesOk b size (n - 1) = false) := fun h => placesOk_no b size (j + 1) (n - 1) h (by omega)
      have hfl : fromN b j ≤ 4294967296 := by
        unfold fromN
        split
        · omega
        · exact Nat.le_of_lt (placeN_lt b j (by omega))
      generalize placeN b (j + 1) = p at *
      generalize fromN b j = f at *
      generalize (List.range (j + 1)).map (fromN b) = acc at *
      by_cases m4 : p % 4 = 0
      · have z4 : ((p : Nat) : Int) % 4 = 0 := by omega
        by_cases mf : f ≤ p
        · have zf : ¬ ((p : Nat) : Int) < (f : Int) := by omega
          by_cases ms : p ≤ size
          · have zs : ¬ (size : Int) < (p : Int) := by omega
            have hok2 : Hid (placesOk b size (j + 1) = true) := by show _ = _; rw [hstep.out, hok.out]; simp [m4, mf, ms]
            have hal2 := balloc wr (.cells #[.int .i64 (p : Int)] 3)
            have ho2 := Lib.hid (ho.out.below hal2)
            have hcl := Lib.hid (lit_int1 wr p)
            have hb2 := Lib.hid (bgo hbw.out hal2)
            clear hal2 hstep hno1
            go_wp2_with fail
            refine hq.out.mono ?_
            rintro e w0 ⟨rfl, hw0⟩
            obtain rfl := hw0.symm
            dsimp only
            go_wp2_with (at_builtin; refine wpList_appI (by rfl) _ _ rfl w.heap.size _ acc rfl ho2.out _ _ [p] rfl hcl.out (by have := hrl.out; simp; omega) hb2.out.size ?_)
            intro v' w' hW2 hb4
            have hW2 := Lib.hid hW2
            have hb4 := Lib.hid (hb2.out.trans hb4)
            go_wp2_with fail
            go_roundw
            case rel => exact ⟨j + 1, by omega, by go_num, by rw [hrs.out]; exact hW2.out, hok2, hb4⟩
            case measure => simp [intOf]; omega
          · have zs : (size : Int) < (p : Int) := by omega
            have hno := hno1.out (by rw [hstep.out]; simp [ms])
            go_wp2_with fail
            refine hq.out.mono ?_
            rintro e w0 ⟨rfl, hw0⟩
            obtain rfl := hw0.symm
            dsimp only
            go_wp2_with fail
            go_returns
            exact .inr ⟨hno, rfl, hbw.out⟩
        · have zf : ((p : Nat) : Int) < (f : Int) := by omega
          have hno := hno1.out (by rw [hstep.out]; simp [mf])
          go_wp2_with fail
          refine hq.out.mono ?_
          rintro e w0 ⟨rfl, hw0⟩
          obtain rfl := hw0.symm
          dsimp only
          go_wp2_with fail
          go_returns
          exact .inr ⟨hno, rfl, hbw.out⟩
      · have z4 : ¬ ((p : Nat) : Int) % 4 = 0 := by omega
        have hno := hno1.out (by rw [hstep.out]; simp [m4])
        go_wp2_with fail
        refine hq.out.mono ?_
        rintro e w0 ⟨rfl, hw0⟩
        obtain rfl := hw0.symm
        dsimp only
        go_wp2_with fail
        go_returns
        exact .inr ⟨hno, rfl, hbw.out⟩
    · have i0 : ¬ (j : Int) + 1 < (n : Int) := by omega
      have hok2 : Hid (placesOk b size (n - 1) = true) := by show _ = _; rw [show n - 1 = j by omega]; exact hok.out
      have hln : Hid ((List.range n).map (fromN b) ++ [size] = (List.range (j + 1)).map (fromN b) ++ [size]) := by show _ = _; rw [show n = j + 1 by omega]
      generalize (List.range (j + 1)).map (fromN b) = acc at *
      have hal2 := balloc wr (.cells #[.int .i64 (size : Int)] 3)
      have ho2 := Lib.hid (ho.out.below hal2)
      have hcl := Lib.hid (lit_int1 wr size)
      have hb2 := Lib.hid (bgo hbw.out hal2)
      clear hal2
      by_cases m4 : size % 4 = 0
      · have z4 : ((size : Nat) : Int) % 4 = 0 := by omega
        go_wp2_with (at_builtin; refine wpList_appI (by rfl) _ _ rfl w.heap.size _ acc rfl ho2.out _ _ [size] rfl hcl.out (by have := hrl.out; simp; omega) hb2.out.size ?_)
        intro v' w' hW2 hb4
        have hW2 := Lib.hid hW2
        have hb4 := Lib.hid (hb2.out.trans hb4)
        go_wp2_with fail
        go_returns
        exact .inl ⟨hok2.out, v', by simp [m4] <;> omega, by rw [hln.out]; exact hW2.out, hb4.out⟩
      · have z4 : ¬ ((size : Nat) : Int) % 4 = 0 := by omega
        go_wp2_with (at_builtin; refine wpList_appI (by rfl) _ _ rfl w.heap.size _ acc rfl ho2.out _ _ [size] rfl hcl.out (by have := hrl.out; simp; omega) hb2.out.size ?_)
        intro v' w' hW2 hb4
        have hW2 := Lib.hid hW2
        have hb4 := Lib.hid (hb2.out.trans hb4)
        go_wp2_with fail
        go_returns
        exact .inl ⟨hok2.out, v', by simp [m4] <;> omega, by rw [hln.out]; exact hW2.out, hb4.out⟩
end
section
open Go.RowKit
set_option linter.unusedVariables false
attribute [local go_sem ↓] Go.wp_at_zero Go.wp_at_succ
set_option maxRecDepth 100000 in
theorem bclone_any (B : Nat) (u : Value) (bs : Bs) (w : World) (hu : SeesB w B u bs) (hB : B ≤ w.heap.size) (hlen : bs.length ≤ 1099511627776) :
    Calls Tryz.prog 51 #[u] w (Gives bs w) := by
  obtain ⟨A, c, rfl, hc1, hc2⟩ := hu.mk_
  cases A with
  | none =>
    have h0 : bs = [] := by
      rcases Nat.eq_zero_or_pos bs.length with h0 | h0
      · exact List.eq_nil_of_length_eq_zero h0
      · obtain ⟨b, o, e, _⟩ := hu.at_ h0
        cases e
    subst h0
    have hnil : ∀ W, (binOp .eql 23 (.slice none 0 c) (.slice none 0 0)).run Tryz.prog W = .ok (.bool true) W := fun W => Lib.run_eql_slice_nil_nil W _ _ Tryz.underlying23
    go_enter Tryz.func51, Tryz.ntmps51
    go_wp2_with fail
    go_ret
    exact ⟨_, rfl, World.ownsRow_nil _ _ _ _, Below.refl _ _⟩
  | some a =>
    have hnil : ∀ W, (binOp .eql 23 (.slice (some a) bs.length c) (.slice none 0 0)).run Tryz.prog W = .ok (.bool false) W := fun W => Lib.run_eql_slice_some_nil W _ _ _ Tryz.underlying23
    have hl := balloc w (.cells #[] 5)
    have ho := own_made w [] (Nat.zero_le _) w.heap.size (Nat.le_refl _)
    have hs := hu.below (hl.mono hB)
    clear hu
    go_enter Tryz.func51, Tryz.ntmps51
    go_wp2_with (at_builtin; refine wpList_app (by rfl) _ _ rfl w.heap.size _ [] rfl ho B _ bs rfl hs (by simp; omega) hl.size ?_)
    intro v' w' h2 hb2
    go_wp2_with fail
    go_ret
    exact ⟨v', rfl, h2, hl.trans hb2⟩
theorem placesOk_get (b : Bs) (size m : Nat) (h : placesOk b size m = true) : ∀ j, j < m → placeN b (j + 1) % 4 = 0 ∧ fromN b j ≤ placeN b (j + 1) ∧ placeN b (j + 1) ≤ size := by
  induction m with
  | zero => intro j hj; omega
  | succ m ih =>
    intro j hj
    rw [placesOk] at h
    simp at h
    by_cases hjm : j = m
    · subst hjm
      exact ⟨h.2.1.1, h.2.1.2, h.2.2⟩
    · exact ih h.1 j (by omega)
theorem from_le (b : Bs) (n size : Nat) (h : placesOk b size (n - 1) = true) (i : Nat) (hi : i < n) : fromN b i ≤ size := by
  cases i with
  | zero => simp [fromN]
  | succ i =>
    have := (placesOk_get b size _ h i (by omega)).2.2
    simpa [fromN] using this
theorem at_le (b : Bs) (n size : Nat) (h : placesOk b size (n - 1) = true) (i : Nat) (hi : i < n) : atN b n size i ≤ atN b n size (i + 1) ∧ atN b n size (i + 1) ≤ size := by
  unfold atN
  rw [if_pos hi]
  by_cases h2 : i + 1 < n
  · rw [if_pos h2]
    have := placesOk_get b size _ h i (by omega)
    have e : fromN b (i + 1) = placeN b (i + 1) := by simp [fromN]
    rw [e]
    exact ⟨this.2.1, this.2.2⟩
  · rw [if_neg h2]
    exact ⟨from_le b n size h i hi, Nat.le_refl _⟩
def listN (b : Bs) (n size : Nat) : List Nat := (List.range n).map (fromN b) ++ [size]
theorem listN_len (b : Bs) (n size : Nat) : (listN b n size).length = n + 1 := by simp [listN]
theorem listN_get (b : Bs) (n size i : Nat) (h : i ≤ n) : (listN b n size).getD i 0 = atN b n size i := by
  unfold listN atN
  rw [List.getD_eq_getElem?_getD]
  by_cases h2 : i < n
  · rw [if_pos h2, List.getElem?_append_left (by simpa using h2)]
    simp [h2]
  · rw [if_neg h2, List.getElem?_append_right (by simp; omega)]
    simp [show i - n = 0 by omega]
theorem tagsN_step (b : Bs) (n k : Nat) : (List.range (k + 1)).map (tagN b n) = (List.range k).map (tagN b n) ++ [tagN b n k] := by
  rw [List.range_succ, List.map_append]; rfl
theorem dec_bad {b : Bs} {c : Int} (h : decC b = c) (hc : c ≠ 0) : decT b = [] := by
  unfold decT
  rw [if_neg (by rw [h]; exact hc)]
theorem dec_long (b : Bs) (h : 2048 < b.length) : decC b = 2 := by unfold decC; rw [if_pos h]
theorem dec_short (b : Bs) (h : ¬ 2048 < b.length) (h1 : b.length < 4) : decC b = 1 := by unfold decC; rw [if_neg h, if_pos h1]
theorem dec_limit (b : Bs) (h : ¬ 2048 < b.length) (h1 : ¬ b.length < 4) (h2 : placeN b 0 < 1 ∨ 16 < placeN b 0) : decC b = 8 := by unfold decC; rw [if_neg h, if_neg h1, if_pos h2]
theorem dec_short2 (b : Bs) (h : ¬ 2048 < b.length) (h1 : ¬ b.length < 4) (h2 : ¬ (placeN b 0 < 1 ∨ 16 < placeN b 0)) (h3 : b.length < 8 * placeN b 0) : decC b = 1 := by
  unfold decC; rw [if_neg h, if_neg h1, if_neg h2, if_pos h3]
theorem dec_form (b : Bs) (h : ¬ 2048 < b.length) (h1 : ¬ b.length < 4) (h2 : ¬ (placeN b 0 < 1 ∨ 16 < placeN b 0)) (h3 : ¬ b.length < 8 * placeN b 0)
    (h4 : ¬ (placesOk b (b.length - 8 * placeN b 0) (placeN b 0 - 1) = true ∧ (b.length - 8 * placeN b 0) % 4 = 0)) : decC b = 3 := by
  unfold decC; rw [if_neg h, if_neg h1, if_neg h2, if_neg h3, if_neg h4]
theorem dec_tags (b : Bs) (h : ¬ 2048 < b.length) (h1 : ¬ b.length < 4) (h2 : ¬ (placeN b 0 < 1 ∨ 16 < placeN b 0)) (h3 : ¬ b.length < 8 * placeN b 0)
    (h4 : placesOk b (b.length - 8 * placeN b 0) (placeN b 0 - 1) = true ∧ (b.length - 8 * placeN b 0) % 4 = 0) : decC b = checkT [] (tagsN b (placeN b 0)) := by
  unfold decC; rw [if_neg h, if_neg h1, if_neg h2, if_neg h3, if_pos h4]
/-- What Decode returns. -/
def DecP (b : Bs) (w : World) (e : Ending) (w' : World) : Prop :=
  ∃ v, e = .returned (.tuple #[v, .int .i64 (decC b)]) ∧ SeesR w' w'.heap.size v 2 (decT b).length (tagS (decT b)) ∧ Below w.heap.size w w'
theorem dec_nil {b : Bs} {c : Int} {w w' : World} {e : Ending} (h : decC b = c) (hc : c ≠ 0) (he : e = .returned (.tuple #[.slice none 0 0, .int .i64 c])) (hb : Below w.heap.size w w') : DecP b w e w' := by
  refine ⟨.slice none 0 0, by rw [h]; exact he, ?_, hb⟩
  rw [dec_bad h hc]
  exact SeesR.nil _ _ _
end
section
open Go.RowKit
set_option linter.unusedVariables false
attribute [local go_sem ↓] Go.wp_at_zero Go.wp_at_succ
theorem tag_info : (Tryz.prog.info? 92).map (fun i => (i.zero, i.size, i.bytes)) = some (some (.agg #[.string ⟨#[]⟩, .slice none 0 0]), 2, 40) := by kernel_rfl
set_option maxRecDepth 100000 in
set_option maxHeartbeats 4000000 in
theorem decode_any (B : Nat) (u : Value) (b : Bs) (w : World) (hu : SeesB w B u b) (hB : B ≤ w.heap.size) (hbl : b.length ≤ 1048576) :
    Calls Tryz.prog 23 #[u] w (DecP b w) := by
  obtain ⟨A, c, rfl, hc1, hc2⟩ := hu.mk_
  by_cases g1 : 2048 < b.length
  · have hd := Lib.hid (dec_long b g1)
    have i1 : (2048 : Int) < (b.length : Int) := by omega
    clear hu
    go_enter Tryz.func23, Tryz.ntmps23
    go_wp2_with fail
    go_returns
    exact dec_nil hd.out (by omega) rfl (Below.refl _ _)
  by_cases g2 : b.length < 4
  · have hd := Lib.hid (dec_short b g1 g2)
    have i1 : ¬ (2048 : Int) < (b.length : Int) := by omega
    have i2 : (b.length : Int) < 4 := by omega
    clear hu
    go_enter Tryz.func23, Tryz.ntmps23
    go_wp2_with fail
    go_returns
    exact dec_nil hd.out (by omega) rfl (Below.refl _ _)
  have i1 : ¬ (2048 : Int) < (b.length : Int) := by omega
  have i2 : ¬ (b.length : Int) < 4 := by omega
  have hnum := Lib.hid (number_any B _ b 0 w hu (by omega) (by omega))
  rw [show (((0 : Nat)) : Int) = 0 from rfl] at hnum
  by_cases g3 : placeN b 0 < 1 ∨ 16 < placeN b 0
  · have hd := Lib.hid (dec_limit b g1 g2 g3)
    generalize placeN b 0 = n at *
    rcases g3 with g3 | g3
    · have i3 : (n : Int) < 1 := by omega
      clear hu
      go_enter Tryz.func23, Tryz.ntmps23
      go_wp2_with fail
      refine hnum.out.mono ?_
      rintro e w0 ⟨rfl, rfl⟩
      dsimp only
      go_wp2_with fail
      go_returns
      exact dec_nil hd.out (by omega) rfl (Below.refl _ _)
    · have i3 : ¬ (n : Int) < 1 := by omega
      have i4 : (16 : Int) < (n : Int) := by omega
      clear hu
      go_enter Tryz.func23, Tryz.ntmps23
      go_wp2_with fail
      refine hnum.out.mono ?_
      rintro e w0 ⟨rfl, rfl⟩
      dsimp only
      go_wp2_with fail
      go_returns
      exact dec_nil hd.out (by omega) rfl (Below.refl _ _)
  have i3 : ¬ ((placeN b 0 : Nat) : Int) < 1 := by omega
  have i4 : ¬ (16 : Int) < ((placeN b 0 : Nat) : Int) := by omega
  by_cases g4 : b.length < 8 * placeN b 0
  · have hd := Lib.hid (dec_short2 b g1 g2 g3 g4)
    generalize placeN b 0 = n at *
    have i5 : (b.length : Int) < 8 * (n : Int) := by omega
    clear hu
    go_enter Tryz.func23, Tryz.ntmps23
    go_wp2_with fail
    refine hnum.out.mono ?_
    rintro e w0 ⟨rfl, rfl⟩
    dsimp only
    go_wp2_with fail
    go_returns
    exact dec_nil hd.out (by omega) rfl (Below.refl _ _)
  have i5 : ¬ (b.length : Int) < 8 * ((placeN b 0 : Nat) : Int) := by omega
  have hfm := dec_form b g1 g2 g3 g4
  have htg := dec_tags b g1 g2 g3 g4
  have hdt : decT b = if decC b = 0 then tagsN b (placeN b 0) else [] := rfl
  have hr := run_cut_from (P := Tryz.prog) 23 Tryz.underlying23 1 byte_size A b.length c .i64 (8 * ((placeN b 0 : Nat) : Int)) (by omega) (by omega)
  rw [show (8 * ((placeN b 0 : Nat) : Int)).toNat = 8 * placeN b 0 from by omega] at hr
  have hcut := SeesB.cut (a := 8 * placeN b 0) (b := b.length) hu (by omega) (Nat.le_refl _)
  rw [List.take_of_length_le (by rw [List.length_drop]; omega)] at hcut
  generalize hN : placeN b 0 = n at *
  have hpl := Lib.hid (places_any B _ b n (b.length - 8 * n) w hu hB (by omega) (by omega) (by omega) (by omega) (by omega))
  have hD : (b.drop (8 * n)).length = b.length - 8 * n := List.length_drop
  generalize hz : b.length - 8 * n = z at *
  have hz2 : (b.length : Int) - 8 * (n : Int) = (z : Int) := by omega
  generalize cutA A c (8 * n) 1 = A2 at *
  generalize hc3 : c - 8 * n = c2 at *
  have hc4 : z ≤ c2 := by omega
  have hu' := Lib.hid hu
  have hcut' := Lib.hid hcut
  have hfm' := Lib.hid hfm
  have htg' := Lib.hid htg
  have hdt' := Lib.hid hdt
  replace hz := Lib.hid hz
  replace hD := Lib.hid hD
  replace hc3 := Lib.hid hc3
  replace hN := Lib.hid hN
  clear hu hcut hfm htg hdt
  go_enter Tryz.func23, Tryz.ntmps23
  go_wp2_with fail
  refine hnum.out.mono ?_
  rintro e w0 ⟨rfl, hw0⟩
  obtain rfl := hw0.symm
  dsimp only
  go_wp2_with fail
  refine hpl.out.mono ?_
  rintro e w2 hP
  rcases hP with ⟨hok, v2, rfl, hL, hb2⟩ | ⟨hno, rfl, hb2⟩
  · dsimp only
    by_cases m4 : z % 4 = 0
    · have hdc := htg'.out ⟨hok, m4⟩
      have hat := fun k hk => at_le b n z hok k hk
      rw [show (List.range n).map (fromN b) ++ [z] = listN b n z from rfl] at hL
      have hLl := listN_len b n z
      obtain ⟨AL, cL, rfl, -, -⟩ := hL.sees.mk_
      obtain ⟨gL, oL, rfl, hgL, hLc⟩ := hL.sees.at_ (by omega)
      have hLc2 : ∀ k, k ≤ n → w2.cell? ⟨gL, oL + k, none⟩ = some (.int .i64 ((atN b n z k : Nat) : Int)) := fun k hk => by
        have := hLc k (by omega)
        rwa [listN_get b n z k hk] at this
      have hlit : decide (z % 4 = 0) = true := by rw [decide_eq_true_iff]; exact m4
      rw [hlit]
      have hchk := Lib.hid (fun W u (hW : SeesR W W.heap.size u 2 (tagsN b n).length (tagS (tagsN b n))) => tcheck_any W.heap.size u (tagsN b n) W hW (Nat.le_refl _) (by simp [tagsN]; omega))
      have hK : Hid (∀ k, k < n → ∀ W', Below w2.heap.size w2 W' → W'.cell? ⟨gL, oL + k, none⟩ = some (.int .i64 ((atN b n z k : Nat) : Int)) ∧ W'.cell? ⟨gL, oL + (k + 1), none⟩ = some (.int .i64 ((atN b n z (k + 1) : Nat) : Int))) := fun k hk W' hW' =>
        ⟨(hW'.cell (p := ⟨gL, oL + k, none⟩) hgL).trans (hLc2 k (by omega)), (hW'.cell (p := ⟨gL, oL + (k + 1), none⟩) hgL).trans (hLc2 (k + 1) (by omega))⟩
      have hts : Hid ((tagsN b n) = (List.range n).map (tagN b n)) := rfl
      have hdt2 : Hid (decT b = if checkT [] (tagsN b n) = 0 then tagsN b n else []) := by show _ = _; rw [hdt'.out, hdc]
      replace hdc := Lib.hid hdc
      replace hat := Lib.hid hat
      replace hb2 := Lib.hid hb2
      replace hLl := Lib.hid hLl
      have hsz : (((listN b n z).length : Nat) : Int) = (n : Int) + 1 := by rw [hLl.out]; omega
      replace hsz := Lib.hid hsz
      clear hL hLc hLc2 hlit hfm' htg' hdt' hok hpl
      generalize listN b n z = L at *
      go_wp2_with fail
      go_loopw [8, 9, 10, 50] (fun r _ _ t wr => ∃ k : Nat, k ≤ n ∧ t = .int .i64 k ∧ Hid (OwnR wr w2.heap.size 92 r 2 k (tagS ((List.range k).map (tagN b n)))) ∧ Hid (Below w2.heap.size w2 wr)) (fun _ _ _ t _ => n - (intOf t).toNat)
      case atStart => exact ⟨0, by omega, rfl, OwnR.nil _ _ _ _, Below.refl _ _⟩
      case round =>
        obtain ⟨k, hk, rfl, ho, hb⟩ := hrel
        obtain ⟨Ar, cr, rfl, -, -⟩ := ho.out.sees.mk_
        by_cases hlt : k < n
        · have i9 : (k : Int) < (n : Int) := by omega
          obtain ⟨a1, a2⟩ := hat.out k hlt
          have K := Lib.hid (hK.out k hlt)
          obtain ⟨x0, x1⟩ := K.out wr hb.out
          have hstep := Lib.hid (tagsN_step b n k)
          have htg : Hid (tagN b n k = ((b.drop (4 * (n + k))).take 4, ((b.drop (8 * n)).drop (atN b n z k)).take (atN b n z (k + 1) - atN b n z k))) := by show _ = _; rw [tagN, hz.out]
          generalize atN b n z k = p at *
          generalize atN b n z (k + 1) = q at *
          have hb0 := hb.out
          have hbw := bgo hb2.out hb0
          have hub := hu'.out.below (hbw.mono hB)
          have hcb := hcut'.out.below (hbw.mono hB)
          have hr3 := run_cut (P := Tryz.prog) 23 Tryz.underlying23 1 byte_size A b.length c .i64 .i64 (4 * ((n : Int) + (k : Int))) (4 * ((n : Int) + (k : Int)) + 4) (by omega) (by omega) (by omega)
          rw [show (4 * ((n : Int) + (k : Int))).toNat = 4 * (n + k) by omega, show (4 * ((n : Int) + (k : Int)) + 4).toNat = 4 * (n + k) + 4 by omega] at hr3
          have hnm := SeesB.cut (a := 4 * (n + k)) (b := 4 * (n + k) + 4) hub (by omega) (by omega)
          rw [show 4 * (n + k) + 4 - 4 * (n + k) = 4 by omega] at hnm hr3
          have hstr := hnm.string
          have hr4 := run_cut (P := Tryz.prog) 23 Tryz.underlying23 1 byte_size A2 z c2 .i64 .i64 (p : Int) (q : Int) (by omega) (by omega) (by omega)
          rw [Int.toNat_natCast, Int.toNat_natCast] at hr4
          have hda := SeesB.cut (a := p) (b := q) hcb a1 (by rw [hD.out]; exact a2)
          have hclo := Lib.hid (fun W (hW : Below wr.heap.size wr W) => bclone_any B _ _ W (hda.below (hW.mono (Nat.le_trans hB hbw.size))) (Nat.le_trans hB (Nat.le_trans hbw.size hW.size)) (by rw [List.length_take]; omega))
          generalize (b.drop (4 * (n + k))).take 4 = nm at *
          generalize cutA A c (4 * (n + k)) 1 = A3 at *
          generalize c - 4 * (n + k) = c3 at *
          generalize ((b.drop (8 * n)).drop p).take (q - p) = da at *
          generalize cutA A2 c2 p 1 = A4 at *
          generalize c2 - p = c4 at *
          generalize (List.range k).map (tagN b n) = acc at *
          obtain ⟨ti, hti, htz, hts', htby⟩ := info_parts tag_info
          have hst1 : (Value.string (strB nm)).oneCell' = true := rfl
          generalize hS1 : strB nm = S1 at *
          replace hS1 := Lib.hid hS1
          clear hub hcb hnm hda hbw
          have i12 : (k : Int) < ((L.length : Nat) : Int) := by have := hsz.out; omega
          have i13 : (k : Int) + 1 < ((L.length : Nat) : Int) := by have := hsz.out; omega
          have i14 : IntKind.i64.wrap ((k : Int) + 1) = (k : Int) + 1 := by rw [IntKind.wrap_i64]; omega
          have i15 : ((k : Int) + 1).toNat = k + 1 := by omega
          have i16 : (0 : Int) ≤ (k : Int) + 1 := by omega
          have i10 : (p : Int) ≤ (q : Int) := by omega
          have i11 : (q : Int) ≤ (c2 : Int) := by omega
          go_wp2_with fail
          go_region_held3 (fun W' : World => W'.cell? ⟨gL, oL + k, none⟩ = some (.int .i64 (p : Int)) ∧ W'.cell? ⟨gL, oL + (k + 1), none⟩ = some (.int .i64 (q : Int)))
            (first | exact K.out _ (hb3.out.trans hb4) | exact K.out _ (by (repeat (first | exact Below.refl _ _ | (refine bgo ?_ (balloc _ _)) | (refine bgo ?_ (bdrew _)) | (refine bgo ?_ (by assumption))))) | (go_keep; done))
            (first
              | (refine step_appR (by rfl) _ _ 63 92 Tryz.underlying63 (by rfl) ti _ 2 40 hti htz hts' htby (by rfl) (by omega) (by omega) w2.heap.size _ k _ (by rfl) ho2.out _ _ 1 _ [.val (.string S1), .byt da] (by rfl) hrec.out (by rfl) hel.out (by omega) hb3.out.size ?_; intro v' w' hW2 hb4)
              | (go_at_call 51; refine (hclo.out _ (bdrew wr)).mono ?_; rintro e w5 ⟨v5, rfl, h5, hb5⟩; obtain ⟨A5, c5, rfl, -, -⟩ := h5.sees.mk_
                 have hw5 := bgo (bdrew wr) hb5
                 have hal := balloc w5 (.cells #[.string S1, .slice A5 da.length c5] 92)
                 have hrec : Hid (Sees (w5.alloc (.cells #[.string S1, .slice A5 da.length c5] 92)) (w5.heap.size + 1) (.slice (some ⟨w5.heap.size, 0, none⟩) 1 1) 2 1 [.string S1, .slice A5 da.length c5]) := rec_lit w5 92 [.string S1, .slice A5 da.length c5]
                 have ho2 := Lib.hid ((ho.out.below hw5).below hal)
                 have hel := Lib.hid (two_elt hst1 ((EltS.of_from (v := .slice Ar k cr) h5.sees h5.from (fun j hj => (ho.out.lt j hj).2)).below hal))
                 have hb3 := Lib.hid (bgo (bgo hb0 hw5) hal)
                 clear hal h5))
          all_goals
            go_wp2_with fail
            go_roundw
            case rel => exact ⟨k + 1, by omega, by go_num, by rw [hstep.out, tagS_append, htg.out, show tagS [(nm, da)] = [Spec.val (.string (strB nm)), Spec.byt da] from rfl, hS1.out]; exact hW2, hb3.out.trans hb4⟩
            case measure => simp [intOf]; omega
        · obtain rfl : n = k := by omega
          have i9 : ¬ (n : Int) < (n : Int) := by omega
          have hs9 : Hid (SeesR wr wr.heap.size (.slice Ar n cr) 2 (tagsN b n).length (tagS (tagsN b n))) := by
            have h9 := ho.out.sees
            rw [← hts.out] at h9
            have hl9 : (tagsN b n).length = n := by simp [tagsN]
            show SeesR _ _ _ _ _ _
            rw [hl9]
            exact h9
          generalize tagsN b n = ts at *
          have hcw := Lib.hid (hchk.out wr _ hs9.out)
          clear hchk
          generalize checkT [] ts = E at *
          by_cases hE : E = 0
          · have hd0 : Hid (decT b = ts) := by show _ = _; rw [hdt2.out, if_pos hE]
            subst hE
            go_wp2_with fail
            refine hcw.out.mono ?_
            rintro e w6 ⟨rfl, hb6⟩
            dsimp only
            go_wp2_with fail
            go_returns
            exact ⟨.slice Ar n cr, by rw [hdc.out]; rfl, by rw [hd0.out]; exact (hs9.out.below hb6).more hb6.size, bgo (bgo hb2.out hb.out) hb6⟩
          · go_wp2_with fail
            refine hcw.out.mono ?_
            rintro e w6 ⟨rfl, hb6⟩
            dsimp only
            go_wp2_with fail
            go_returns
            exact dec_nil hdc.out hE rfl (bgo (bgo hb2.out hb.out) hb6)
    · have hdc := hfm'.out (fun h => m4 h.2)
      have hlit : decide (z % 4 = 0) = false := by rw [decide_eq_false_iff_not]; exact m4
      rw [hlit]
      obtain ⟨AL, cL, rfl, -, -⟩ := hL.sees.mk_
      replace hdc := Lib.hid hdc
      clear hlit hL
      go_wp2_with fail
      go_returns
      exact dec_nil hdc.out (by omega) rfl hb2
  · have hdc := hfm'.out (fun h => by rw [hno] at h; exact absurd h.1 (by simp))
    replace hdc := Lib.hid hdc
    dsimp only
    go_wp2_with fail
    go_returns
    exact dec_nil hdc.out (by omega) rfl hb2
end
section
open Go.RowKit
set_option linter.unusedVariables false
attribute [local go_sem ↓] Go.wp_at_zero Go.wp_at_succ
theorem tagsN_get (b : Bs) (n k : Nat) (h : k < n) : (tagsN b n)[k]? = some (tagN b n k) := by
  simp [tagsN, h]
end
section
open Go.RowKit
set_option linter.unusedVariables false
attribute [local go_sem ↓] Go.wp_at_zero Go.wp_at_succ
def nameS (ns : List Bs) : List Spec := ns.map fun s => .val (.string (strB s))
def PartsP (ts : List (Bs × Bs)) (ns : List Bs) (w : World) (e : Ending) (w' : World) : Prop :=
  (ts.map (·.1) = ns ∧ ∃ v, e = .returned (.tuple #[v, .bool true]) ∧ OwnL w' w.heap.size v (ts.map (·.2)) ∧ Below w.heap.size w w') ∨
  (ts.map (·.1) ≠ ns ∧ e = .returned (.tuple #[.slice none 0 0, .bool false]) ∧ Below w.heap.size w w')
theorem name_at {w : World} {B n c : Nat} {A : Option Addr} {ns : List Bs} (h : SeesR w B (.slice A n c) 1 n (nameS ns)) (k : Nat) (s : Bs) (hk : ns[k]? = some s) :
    ∃ b o, A = some ⟨b, o, none⟩ ∧ b < B ∧ w.cell? ⟨b, o + k, none⟩ = some (.string (strB s)) := by
  have hl := h.1
  simp only [nameS, List.length_map, Nat.mul_one] at hl
  have hkl := (List.getElem?_eq_some_iff.1 hk).1
  obtain ⟨b, o, e, hb, hc⟩ := h.at_ (by omega)
  obtain ⟨u1, c1, f1⟩ := hc k (.val (.string (strB s))) (by simp [nameS, hk])
  obtain ⟨rfl, -⟩ := f1
  exact ⟨b, o, e, hb, c1⟩
set_option maxRecDepth 100000 in
set_option maxHeartbeats 2000000 in
theorem parts2_any (B B2 : Nat) (u u2 : Value) (ts : List (Bs × Bs)) (ns : List Bs) (w : World) (hu : SeesR w B u 2 ts.length (tagS ts)) (hu2 : SeesR w B2 u2 1 ns.length (nameS ns)) (hB : B ≤ w.heap.size) (hB2 : B2 ≤ w.heap.size) (hn : ts.length ≤ 1048576) :
    Calls Tryz.prog 24 #[u, u2] w (PartsP ts ns w) := by
  obtain ⟨A, c, rfl, -, -⟩ := hu.mk_
  obtain ⟨A2, c2, rfl, -, -⟩ := hu2.mk_
  replace hu := Lib.hid hu
  replace hu2 := Lib.hid hu2
  by_cases hl : ts.length = ns.length
  · have hl1 : (ts.length : Int) = (ns.length : Int) := by omega
    have hl2 := Lib.hid hl
    clear hl
    go_enter Tryz.func24, Tryz.ntmps24
    go_wp2_with fail
    go_loopw [6, 7, 8, 16] (fun r _ _ t wr => ∃ k : Nat, k ≤ ts.length ∧ t = .int .i64 k ∧ Hid (OwnL wr w.heap.size r ((ts.map (·.2)).take k)) ∧ Hid ((ts.map (·.1)).take k = ns.take k) ∧ Hid (Below w.heap.size w wr)) (fun _ _ _ t _ => ts.length - (intOf t).toNat)
    case atStart => exact ⟨0, by omega, rfl, OwnL.nil _ _, by show _ = _; simp, Below.refl _ _⟩
    case round =>
      obtain ⟨k, hk, rfl, ho, hnk, hb⟩ := hrel
      obtain ⟨Ar, cr, rfl⟩ := ho.out.shape
      have hkl : ((ts.map (·.2)).take k).length = k := by rw [List.length_take, List.length_map]; omega
      rw [hkl] at ho ⊢
      replace hkl := Lib.hid hkl
      by_cases hlt : k < ts.length
      · obtain ⟨t, ht⟩ : ∃ t, ts[k]? = some t := ⟨ts[k], List.getElem?_eq_getElem hlt⟩
        obtain ⟨s, hs⟩ : ∃ s, ns[k]? = some s := ⟨ns[k]'(by have := hl2.out; omega), List.getElem?_eq_getElem (by have := hl2.out; omega)⟩
        obtain ⟨b, o, A', c', rfl, hbB, x0, x1, hd⟩ := tag_at (hu.out.below (hb.out.mono hB)) k t ht
        obtain ⟨b2, o2, rfl, hbB2, y0⟩ := name_at (hu2.out.below (hb.out.mono hB2)) k s hs
        obtain ⟨nm, da⟩ := t
        dsimp only at x0 x1 hd
        have l1 := strB_toList nm
        have l2 := strB_toList s
        have hn1 : Hid ((ts.map (·.1)).take (k + 1) = (ts.map (·.1)).take k ++ [nm]) := take_one _ _ _ (by simp [ht])
        have hn2 : Hid (ns.take (k + 1) = ns.take k ++ [s]) := take_one _ _ _ hs
        have hn3 : Hid ((ts.map (·.2)).take (k + 1) = (ts.map (·.2)).take k ++ [da]) := take_one _ _ _ (by simp [ht])
        have hne : Hid (nm ≠ s → ts.map (·.1) ≠ ns) := fun h e => by
          have h1 : (ts.map (·.1))[k]? = some nm := by simp [ht]
          rw [e, hs] at h1
          cases h1
          exact h rfl
        have i0 : (k : Int) < (ts.length : Int) := by omega
        have i1 : (k : Int) < (ns.length : Int) := by omega
        have hel := Lib.hid (Elt.of_old (v := .slice Ar k cr) hd (Nat.le_trans hB hb.out.size) (fun j hj => Nat.le_trans hB (ho.out.lt j hj).1))
        generalize (ts.map (·.2)).take k = acc at *
        generalize strB nm = S1 at *
        generalize strB s = S2 at *
        replace ht := Lib.hid ht
        replace hs := Lib.hid hs
        clear hd
        have hbA := balloc wr (.cells #[.string S1, .slice A' da.length c'] 92)
        have hx := Box.new wr 92 [.string S1, .slice A' da.length c']
        change Box (wr.alloc (.cells #[.string S1, .slice A' da.length c'] 92)) _ _ _ at hx
        have y1 : (wr.alloc (.cells #[.string S1, .slice A' da.length c'] 92)).cell? ⟨b2, o2 + k, none⟩ = some (.string S2) := (hbA.cell (p := ⟨b2, o2 + k, none⟩) (Nat.lt_of_lt_of_le hbB2 (Nat.le_trans hB2 hb.out.size))).trans y0
        clear y0
        by_cases hq : nm = s
        · have hnk2 : Hid ((ts.map (·.1)).take (k + 1) = ns.take (k + 1)) := by show _ = _; rw [hn1.out, hn2.out, hnk.out, hq]
          subst hq
          go_wp2_with fail
          go_quiet (fail)
          have hdq : Below wr.heap.size wr ((wr.alloc (.cells #[.string S1, .slice A' da.length c'] 92)).drewN nq) := below_drewN hbA nq
          have ho3 := ho.out.below hdq
          have x2 : ((wr.alloc (.cells #[.string S1, .slice A' da.length c'] 92)).drewN nq).cell? ⟨wr.heap.size, 1, none⟩ = some (.slice A' da.length c') := hx.cell 1
          have hel3 := hel.out.below hdq
          have hb3 := bgo hb.out hdq
          clear x0 x1 y1 hx hbA
          generalize (wr.alloc (.cells #[.string S1, .slice A' da.length c'] 92)).drewN nq = w3 at *
          generalize wr.heap.size = g9 at *
          have hal := balloc w3 (.cells #[.slice A' da.length c'] 23)
          have hbox := Lib.hid (one_cell w3 (.slice A' da.length c') 23)
          have ho4 := Lib.hid (ho3.below hal)
          have hel4 := Lib.hid (hel3.below hal)
          have hb4 := Lib.hid (bgo hb3 hal)
          clear hdq ho3 hel3 hb3 hal
          go_wp2_with (at_builtin; refine wpList_appL (by rfl) _ _ 35 Tryz.underlying35 rfl w.heap.size _ acc rfl ho4.out _ _ _ da rfl hbox.out hel4.out (by have := hkl.out; omega) hb4.out.size ?_)
          intro v' w' hW2 hb5
          have hW2 := Lib.hid hW2
          have hb5 := Lib.hid (hb4.out.trans hb5)
          go_wp2_with fail
          go_roundw
          case rel => exact ⟨k + 1, by omega, by go_num, by rw [hn3.out]; exact hW2.out, hnk2, hb5⟩
          case measure => simp [intOf]; omega
        · have hq2 : (nm == s) = false := by simp [hq]
          replace hq := Lib.hid hq
          go_wp2_with fail
          go_quiet (fail)
          go_wp2_with fail
          go_returns
          exact .inr ⟨hne.out hq.out, rfl, below_drewN (bgo hb.out hbA) _⟩
      · have i0 : ¬ (k : Int) < (ts.length : Int) := by omega
        have hall : Hid (ts.map (·.1) = ns) := by
          show _ = _
          have h1 := hnk.out
          rw [List.take_of_length_le (by simp; omega), List.take_of_length_le (by have := hl2.out; omega)] at h1
          exact h1
        have hs9 : Hid ((ts.map (·.2)).take k = ts.map (·.2)) := List.take_of_length_le (by simp; omega)
        rw [hs9.out] at ho
        go_wp2_with fail
        go_returns
        exact .inl ⟨hall.out, _, rfl, ho.out, hb.out⟩
  · have hl1 : ¬ (ts.length : Int) = (ns.length : Int) := by omega
    have hne : Hid (ts.map (·.1) ≠ ns) := fun e => hl (by rw [← e]; simp)
    go_enter Tryz.func24, Tryz.ntmps24
    go_wp2_with fail
    go_returns
    exact .inr ⟨hne.out, rfl, Below.refl _ _⟩
end
section
open Go.RowKit
set_option linter.unusedVariables false
attribute [local go_sem ↓] Go.wp_at_zero Go.wp_at_succ
def pad4 (l : Bs) : Bs := l ++ List.replicate ((4 - l.length % 4) % 4) 0
def lenV : Value → Nat
  | .slice _ n _ => n
  | _ => 0
theorem pad_step (l : Bs) (k : Nat) : l ++ List.replicate (k + 1) (0 : UInt8) = l ++ List.replicate k 0 ++ [0] := by
  rw [List.replicate_succ', List.append_assoc]
theorem pad4_len (l : Bs) : (pad4 l).length = l.length + (4 - l.length % 4) % 4 := by simp [pad4]
set_option maxRecDepth 100000 in
theorem pad_any (B : Nat) (u : Value) (l : Bs) (w : World) (hu : SeesB w B u l) (hB : B ≤ w.heap.size) (hl : l.length ≤ 1048576) :
    Calls Tryz.prog 72 #[u, .int .i64 4] w (Gives (pad4 l) w) := by
  have hc := Lib.hid (clone_any B u l w hu hB (by omega))
  obtain ⟨A, c, rfl, -, -⟩ := hu.mk_
  go_enter Tryz.func72, Tryz.ntmps72
  go_wp2_with fail
  refine hc.out.mono ?_
  rintro e w1 ⟨v1, rfl, h1, hb1⟩
  replace h1 := Lib.hid h1
  replace hb1 := Lib.hid hb1
  clear hc hu
  dsimp only
  go_wp2_with fail
  go_loopw [5] (fun r wr => ∃ k : Nat, k ≤ (4 - l.length % 4) % 4 ∧ Hid (OwnB wr w.heap.size r (l ++ List.replicate k 0)) ∧ Hid (Below w.heap.size w wr)) (fun r _ => l.length + 4 - lenV r)
  case atStart => exact ⟨0, by omega, by show OwnB _ _ _ _; simpa using h1.out, hb1⟩
  case round =>
    clear h1 hb1
    obtain ⟨k, hk, ho, hb⟩ := hrel
    have hlen : (l ++ List.replicate k (0 : UInt8)).length = l.length + k := by simp
    have hst := Lib.hid (pad_step l k)
    obtain ⟨Ar, cr, rfl, -, -⟩ := ho.out.sees.mk_
    by_cases hlt : k < (4 - l.length % 4) % 4
    · have i0 : ¬ ((((l ++ List.replicate k (0 : UInt8)).length : Nat) : Int) % 4 = 0) := by rw [hlen]; omega
      generalize l ++ List.replicate k (0 : UInt8) = acc at *
      replace hlen := Lib.hid hlen
      have hal := balloc wr (.cells #[.int .u8 0] 5)
      have ho2 := Lib.hid (ho.out.below hal)
      have hcl := Lib.hid (one_byte wr 0 0 rfl).sees
      have hb2 := Lib.hid (bgo hb.out hal)
      clear hal
      go_wp2_with (at_builtin; refine wpList_app (by rfl) _ _ rfl w.heap.size _ acc rfl ho2.out _ _ [0] rfl hcl.out (by have := hlen.out; simp; omega) hb2.out.size ?_)
      intro v' w' hW2 hb4
      have hW3 := hW2.sees.mk_
      obtain ⟨A9, c9, rfl, -, -⟩ := hW3
      have hW2 := Lib.hid hW2
      have hb4 := Lib.hid (hb2.out.trans hb4)
      go_wp2_with fail
      go_roundw
      case rel => exact ⟨k + 1, by omega, by rw [hst.out]; exact hW2.out, hb4⟩
      case measure => have := hlen.out; simp [lenV]; omega
    · have i0 : ((((l ++ List.replicate k (0 : UInt8)).length : Nat) : Int) % 4 = 0) := by rw [hlen]; omega
      have hp : Hid (pad4 l = l ++ List.replicate k 0) := by show _ = _; rw [pad4, show (4 - l.length % 4) % 4 = k by omega]
      generalize l ++ List.replicate k (0 : UInt8) = acc at *
      replace hlen := Lib.hid hlen
      go_wp2_with fail
      go_returns
      exact ⟨_, rfl, by rw [hp.out]; exact ho.out, hb.out⟩
end
section
open Go.RowKit
set_option linter.unusedVariables false
attribute [local go_sem ↓] Go.wp_at_zero Go.wp_at_succ
def headN (b : Bs) : Nat := (b.getD 0 0).toNat
def sizeN (b : Bs) : Nat := 565 + 32 * headN b
def unpadG (b : Bs) : Option Bs :=
  if b.length = 0 ∨ 6 < headN b ∨ b.length < sizeN b then none else if pad4 (b.take (sizeN b)) = b then some (b.take (sizeN b)) else none
def UnpadP (x : Option Bs) (w : World) (e : Ending) (w' : World) : Prop :=
  match x with
  | none => ∃ A n c, e = .returned (.tuple #[.slice A n c, .bool false]) ∧ Below w.heap.size w w'
  | some s => ∃ v, e = .returned (.tuple #[v, .bool true]) ∧ SeesB w' w'.heap.size v s ∧ Below w.heap.size w w'
theorem unpad_no (b : Bs) (h : b.length = 0 ∨ 6 < headN b ∨ b.length < sizeN b) : unpadG b = none := by unfold unpadG; rw [if_pos h]
theorem tlength_any (h : Nat) (w : World) (hh : h ≤ 255) : Calls Tryz.prog 71 #[.int .i64 (h : Int)] w fun e w' => e = .returned (.int .i64 ((565 + 32 * h : Nat) : Int)) ∧ w' = w := by
  go_enter Tryz.func71, Tryz.ntmps71
  go_wp2_with fail
  go_ret
  exact ⟨ret_int (by omega), rfl⟩
theorem padded_any (B : Nat) (u : Value) (l : Bs) (w : World) (hu : SeesB w B u l) (hB : B ≤ w.heap.size) (hl : l.length ≤ 1048576) :
    Calls Tryz.prog 41 #[u] w (Gives (pad4 l) w) := by
  have hp := Lib.hid (pad_any B u l w hu hB hl)
  go_enter Tryz.func41, Tryz.ntmps41
  go_wp2_with fail
  refine hp.out.mono ?_
  rintro e w1 ⟨v1, rfl, h1, hb1⟩
  dsimp only
  go_wp2_with fail
  go_ret
  exact ⟨v1, rfl, h1, hb1⟩
set_option maxRecDepth 100000 in
theorem cut_any (B : Nat) (u : Value) (b : Bs) (w : World) (hu : SeesB w B u b) (hB : B ≤ w.heap.size) (hl : b.length ≤ 4096) :
    Calls Tryz.prog 56 #[u] w (UnpadP (unpadG b) w) := by
  obtain ⟨A, c, rfl, hc1, hc2⟩ := hu.mk_
  by_cases g0 : b.length = 0
  · rw [unpad_no b (.inl g0)]
    have i0 : (b.length : Int) = 0 := by omega
    go_enter Tryz.func56, Tryz.ntmps56
    go_wp2_with fail
    go_returns
    exact ⟨_, _, _, rfl, Below.refl _ _⟩
  have hh : headN b ≤ 255 := by have := (b.getD 0 0).toNat_lt; unfold headN; omega
  obtain ⟨g, o, rfl, hgB, hcell⟩ := hu.at_ (by omega)
  have x0 : w.cell? ⟨g, o, none⟩ = some (.int .u8 (headN b : Int)) := hcell 0 (by omega)
  have i0 : ¬ (b.length : Int) = 0 := by omega
  have i9 : (0 : Int) < (b.length : Int) := by omega
  by_cases g1 : 6 < headN b
  · rw [unpad_no b (.inr (.inl g1))]
    have i1 : (6 : Int) < (headN b : Int) := by omega
    generalize headN b = h at *
    go_enter Tryz.func56, Tryz.ntmps56
    go_wp2_with fail
    go_returns
    exact ⟨_, _, _, rfl, Below.refl _ _⟩
  have i1 : ¬ (6 : Int) < (headN b : Int) := by omega
  have iw : IntKind.i64.wrap (headN b : Int) = (headN b : Int) := by rw [IntKind.wrap_i64]; omega
  have hlen := fun W => tlength_any (headN b) W hh
  have hsn : 565 + 32 * headN b = sizeN b := rfl
  rw [hsn] at hlen
  by_cases g2 : b.length < sizeN b
  · rw [unpad_no b (.inr (.inr g2))]
    have i2 : (b.length : Int) < (sizeN b : Int) := by omega
    generalize headN b = h at *
    generalize sizeN b = z at *
    replace hlen := Lib.hid hlen
    go_enter Tryz.func56, Tryz.ntmps56
    go_wp2_with fail
    refine (hlen.out _).mono ?_
    rintro e w0 ⟨rfl, rfl⟩
    dsimp only
    go_wp2_with fail
    go_returns
    exact ⟨_, _, _, rfl, Below.refl _ _⟩
  have i2 : ¬ (b.length : Int) < (sizeN b : Int) := by omega
  have hug : unpadG b = if pad4 (b.take (sizeN b)) = b then some (b.take (sizeN b)) else none := by unfold unpadG; rw [if_neg (by omega)]
  have hs := hu.take (m := sizeN b) (c' := c) (by omega) (by omega) hc2
  have hl2 : (b.take (sizeN b)).length = sizeN b := by rw [List.length_take]; omega
  have i3 : (sizeN b : Int) ≤ (c : Int) := by omega
  have hcl := Lib.hid (fun W (hW : Below w.heap.size w W) => bclone_any B _ (b.take (sizeN b)) W (hs.below (hW.mono hB)) (Nat.le_trans hB hW.size) (by omega))
  have hpd := Lib.hid (fun W (hW : Below w.heap.size w W) => padded_any B _ (b.take (sizeN b)) W (hs.below (hW.mono hB)) (Nat.le_trans hB hW.size) (by omega))
  have heq := Lib.hid (fun W v (hW : Below w.heap.size w W) (hv : SeesB W W.heap.size v (pad4 (b.take (sizeN b)))) => equal_any _ _ v _ (pad4 (b.take (sizeN b))) b W hv (hu.below (hW.mono hB)))
  clear hs hu
  generalize b.take (sizeN b) = s at *
  generalize headN b = h at *
  generalize sizeN b = z at *
  have iz : (0 : Int) ≤ (z : Int) := by omega
  replace hlen := Lib.hid hlen
  replace hl2 := Lib.hid hl2
  replace hug := Lib.hid hug
  go_enter Tryz.func56, Tryz.ntmps56
  go_wp2_with fail
  refine (hlen.out _).mono ?_
  rintro e w0 ⟨rfl, hw0⟩
  obtain rfl := hw0.symm
  dsimp only
  go_wp2_with fail
  refine (hlen.out _).mono ?_
  rintro e w0 ⟨rfl, hw0⟩
  obtain rfl := hw0.symm
  dsimp only
  go_wp2_with fail
  refine (hcl.out _ (Below.refl _ _)).mono ?_
  rintro e w1 ⟨v1, rfl, h1, hb1⟩
  obtain ⟨A1, c1, rfl, -, -⟩ := h1.sees.mk_
  dsimp only
  go_wp2_with fail
  refine (hpd.out _ hb1).mono ?_
  rintro e w2 ⟨v2, rfl, h2, hb2⟩
  have hb3 := bgo hb1 hb2
  have hq := Lib.hid (heq.out w2 v2 hb3 h2.sees)
  have h3 := (h1.below hb2).sees
  replace h1 := Lib.hid h1
  replace h2 := Lib.hid h2
  dsimp only
  go_wp2_with fail
  refine hq.out.mono ?_
  rintro e w0 ⟨rfl, hw0⟩
  obtain rfl := hw0.symm
  dsimp only
  by_cases g3 : pad4 s = b
  · have hu9 : Hid (unpadG b = some s) := by show _ = _; rw [hug.out, if_pos g3]
    have hq9 : (pad4 s == b) = true := by simp [g3]
    generalize (pad4 s == b) = Q at *
    subst hq9
    replace g3 := Lib.hid g3
    go_wp2_with fail
    go_returns
    show UnpadP _ _ _ _
    rw [hu9.out]
    exact ⟨_, rfl, h3, hb3⟩
  · have hu9 : Hid (unpadG b = none) := by show _ = _; rw [hug.out, if_neg g3]
    have hq9 : (pad4 s == b) = false := by simp [g3]
    generalize (pad4 s == b) = Q at *
    subst hq9
    replace g3 := Lib.hid g3
    go_wp2_with fail
    go_returns
    show UnpadP _ _ _ _
    rw [hu9.out]
    exact ⟨_, _, _, rfl, hb3⟩
end
section
open Go.RowKit
set_option linter.unusedVariables false
attribute [local go_sem ↓] Go.wp_at_zero Go.wp_at_succ
def nINDX : Bs := [73, 78, 68, 88]
def nNUMB : Bs := [78, 85, 77, 66]
def nPATH : Bs := [80, 65, 84, 72]
def nSIGN : Bs := [83, 73, 71, 78]
def nSREP : Bs := [83, 82, 69, 80]
def nROOT : Bs := [82, 79, 79, 84]
def nSPAN : Bs := [83, 80, 65, 78]
def names5 : List Bs := [nINDX, nNUMB, nPATH, nSIGN, nSREP]
def names2 : List Bs := [nROOT, nSPAN]
theorem rows_lit (W : World) (T : TypeId) (xs : List Value) (h : xs.length ≤ 1000) : Sees (W.alloc (.cells xs.toArray T)) (W.heap.size + 1) (.slice (some ⟨W.heap.size, 0, none⟩) xs.length xs.length) 1 xs.length xs :=
  ⟨by omega, _, _, rfl, Nat.le_refl _, by unfold maxLen; omega, fun _ => ⟨W.heap.size, 0, rfl, by omega, fun j u hj => by have := (Box.new W T xs).cell j; rw [Nat.zero_add, this, hj]⟩⟩
theorem names_lit (W : World) (T : TypeId) (ns : List Bs) (h : ns.length ≤ 1000) : SeesR (W.alloc (.cells (ns.map fun s => Value.string (strB s)).toArray T)) (W.heap.size + 1) (.slice (some ⟨W.heap.size, 0, none⟩) ns.length ns.length) 1 ns.length (nameS ns) := by
  have h1 := rows_lit W T (ns.map fun s => Value.string (strB s)) (by simpa using h)
  rw [List.length_map] at h1
  refine ⟨by simp [nameS], _, h1, fun k s hk => ?_⟩
  simp only [nameS, List.getElem?_map, Option.map_eq_some_iff] at hk
  obtain ⟨x, hx, rfl⟩ := hk
  exact ⟨.string (strB x), by simp [hx], rfl, rfl⟩
def NamesP (ns : List Bs) (w : World) (e : Ending) (w' : World) : Prop := ∃ v, e = .returned v ∧ SeesR w' w'.heap.size v 1 ns.length (nameS ns) ∧ Below w.heap.size w w'
theorem names_any (w : World) : Calls Tryz.prog 47 #[] w (NamesP names5 w) := by
  have hl : Hid (SeesR (w.alloc (.cells #[.string ⟨#[73, 78, 68, 88]⟩, .string ⟨#[78, 85, 77, 66]⟩, .string ⟨#[80, 65, 84, 72]⟩, .string ⟨#[83, 73, 71, 78]⟩, .string ⟨#[83, 82, 69, 80]⟩] 9)) (w.heap.size + 1) (.slice (some ⟨w.heap.size, 0, none⟩) 5 5) 1 5 (nameS names5)) := names_lit w 9 names5 (by simp [names5])
  go_enter Tryz.func47, Tryz.ntmps47
  go_wp2_with fail
  go_ret
  exact ⟨_, rfl, hl.out.more (by rw [World.size_alloc]; exact Nat.le_refl _), balloc w _⟩
theorem names2_lit (w : World) : SeesR (w.alloc (.cells #[.string ⟨#[82, 79, 79, 84]⟩, .string ⟨#[83, 80, 65, 78]⟩] 9)) (w.heap.size + 1) (.slice (some ⟨w.heap.size, 0, none⟩) 2 2) 1 2 (nameS names2) := names_lit w 9 names2 (by simp [names2])
theorem SeesB.over {w w' : World} {B g : Nat} {T : TypeId} {u : Value} {l : Bs} {xs : List Value} (h : SeesB w B u l) (hB : B ≤ w.heap.size) (hbx : Box w g T xs) (hno : NoByte xs) (hg : w.grownBy w' (some g)) : SeesB w' B u l :=
  h.stay fun hl k hk p hp => World.cell?_of_block (hg.block p.block (by rw [hp]; exact Nat.lt_of_lt_of_le (h.blk hl k hk) hB) (fun e => h.notin hbx hno hl (by rw [hk, ← hp, e])))
theorem below_over {w w' : World} {B g : Nat} (hg : w.grownBy w' (some g)) (hB : B ≤ g) (hs : B ≤ w.heap.size) : Below B w w' :=
  ⟨hg.os, hg.tape, hg.output, hg.size, fun k hk => hg.block k (by omega) (fun e => by injection e with e; omega)⟩
end
section
open Go.RowKit
set_option linter.unusedVariables false
attribute [local go_sem ↓] Go.wp_at_zero Go.wp_at_succ
/-- The data of tag k. -/
def datN (b : Bs) (k : Nat) : Bs := ((decT b).getD k ([], [])).2
def contOk (b : Bs) : Bool := decide ((decT b).map (·.1) = names2) && decide ((datN b 0).length = 32) && unOk (datN b 1)
def AnsAt (w : World) (g : Nat) (i n : Int) (pa si pt ro : Value) (lo hi : Int) : Prop := Box w g 106 [.int .i64 i, .int .i64 n, pa, si, pt, ro, .int .i64 lo, .int .i64 hi]
def ContP (b : Bs) (g : Nat) (i n : Int) (pa si pt : Value) (w : World) (e : Ending) (w' : World) : Prop :=
  e = .returned (.bool (contOk b)) ∧ w.grownBy w' (some g) ∧ (contOk b = true → ∃ r, AnsAt w' g i n pa si pt r (unLo (datN b 1)) (unHi (datN b 1)) ∧ SeesB w' w'.heap.size r (datN b 0))
theorem grown_of (w w' : World) (g : Nat) (h : Below w.heap.size w w') : w.grownBy w' (some g) := ⟨h.os, h.tape, h.output, h.size, fun k hk _ => h.block k hk⟩
theorem decT_len (b : Bs) : (decT b).length ≤ 16 := by
  unfold decT
  split
  · rename_i h
    by_cases h0 : 2048 < b.length
    · rw [dec_long b h0] at h; omega
    by_cases h1 : b.length < 4
    · rw [dec_short b h0 h1] at h; omega
    by_cases h2 : placeN b 0 < 1 ∨ 16 < placeN b 0
    · rw [dec_limit b h0 h1 h2] at h; omega
    simp [tagsN]; omega
  · simp
theorem noBL8 {a b c d e f g h : Value} (ha : NoB a) (hb : NoB b) (hc : NoB c) (hd : NoB d) (he : NoB e) (hf : NoB f) (hg : NoB g) (hh : NoB h) : NoByte [a, b, c, d, e, f, g, h] := by
  intro x hx n e
  simp only [List.mem_cons, List.not_mem_nil, or_false] at hx
  rcases hx with rfl | rfl | rfl | rfl | rfl | rfl | rfl | rfl
  · exact ha n e
  · exact hb n e
  · exact hc n e
  · exact hd n e
  · exact he n e
  · exact hf n e
  · exact hg n e
  · exact hh n e
theorem datN_len (b : Bs) (k : Nat) : (datN b k).length ≤ b.length := by
  unfold datN decT
  split
  · rw [List.getD_eq_getElem?_getD]
    by_cases hk : k < placeN b 0
    · rw [tagsN_get b _ k hk]
      simp [tagN]
      omega
    · rw [List.getElem?_eq_none (by simp [tagsN]; omega)]
      simp
  · simp
set_option maxRecDepth 100000 in
set_option maxHeartbeats 4000000 in
theorem content_any (b : Bs) (g : Nat) (i n : Int) (pa si pt ro : Value) (lo hi : Int) (w : World) (hx : AnsAt w g i n pa si pt ro lo hi) (hu : SeesB w w.heap.size pt b) (hl : b.length ≤ 1048576) (hpa : NoB pa) (hsi : NoB si) (hro : NoB ro)
    (h1 : pa.oneCell' = true) (h2 : si.oneCell' = true) (h3 : ro.oneCell' = true) :
    Calls Tryz.prog 91 #[.pointer (some ⟨g, 0, none⟩)] w (ContP b g i n pa si pt w) := by
  obtain ⟨A, c, rfl, -, -⟩ := hu.mk_
  have hdec := decode_any _ _ b w hu (Nat.le_refl _) hl
  unfold DecP at hdec
  generalize decC b = dc at hdec
  unfold AnsAt at hx
  unfold ContP AnsAt
  have x4 := hx.cell 4
  simp only [List.getElem?_cons_zero, List.getElem?_cons_succ] at x4
  have hcd : contOk b = (decide ((decT b).map (·.1) = names2) && decide ((datN b 0).length = 32) && unOk (datN b 1)) := rfl
  have hd0 : datN b 0 = ((decT b).map (·.2)).getD 0 [] := by unfold datN; cases decT b with | nil => rfl | cons x y => rfl
  have hd1 : datN b 1 = ((decT b).map (·.2)).getD 1 [] := by unfold datN; cases decT b with | nil => rfl | cons x y => cases y <;> rfl
  have hdl0 := datN_len b 0
  have hdl1 := datN_len b 1
  have hex := fun W v (h : SeesR W W.heap.size v 2 (decT b).length (tagS (decT b))) => 
    parts2_any W.heap.size _ v _ (decT b) names2 (W.alloc (.cells #[.string ⟨#[82, 79, 79, 84]⟩, .string ⟨#[83, 80, 65, 78]⟩] 9)) (h.below (balloc W _)) (names2_lit W) (balloc W _).size (by rw [World.size_alloc]; exact Nat.le_refl _) (Nat.le_trans (decT_len b) (by omega))
  generalize datN b 0 = d0 at *
  generalize datN b 1 = d1 at *
  replace hcd := Lib.hid hcd
  replace hd0 := Lib.hid hd0
  replace hd1 := Lib.hid hd1
  replace hex := Lib.hid hex
  generalize decT b = ts at *
  replace hdec := Lib.hid hdec
  go_enter Tryz.func91, Tryz.ntmps91
  go_wp2_with fail
  refine hdec.out.mono ?_
  rintro e w1 ⟨v1, rfl, s1, hb1⟩
  dsimp only
  go_wp2_with fail
  refine (hex.out w1 v1 s1).mono ?_
  rintro e w3 hP
  have hbA := bgo hb1 (balloc w1 (.cells #[.string ⟨#[82, 79, 79, 84]⟩, .string ⟨#[83, 80, 65, 78]⟩] 9))
  clear hex hdec s1
  rcases hP with ⟨hnm, v3, rfl, ho, hb3⟩ | ⟨hnm, rfl, hb3⟩
  · have hgw := hx.lt
    have hown := (ho.mono hbA.size).lt
    replace hbA := bgo hbA hb3
    have hL2 : (ts.map (·.2)).length = 2 := by
      have := congrArg List.length hnm
      simpa [names2] using this
    have hsl := ho.sees
    obtain ⟨A3, c3, rfl, -, -⟩ := hsl.mk_
    obtain ⟨b6, o6, rfl, hb6, hcell⟩ := hsl.at_ (by omega)
    obtain ⟨Aa, ca, y0, -, -, sd0⟩ := hcell 0 (by omega)
    obtain ⟨Ab, cb, y1, -, -, sd1⟩ := hcell 1 (by omega)
    rw [← hd0.out] at y0 sd0
    rw [← hd1.out] at y1 sd1
    replace y0 : w3.cell? ⟨b6, o6, none⟩ = some (.slice Aa d0.length ca) := y0
    have hb6g : b6 ≠ g := by have := (hown b6 rfl).1; omega
    replace hx := hx.below hbA
    clear hcell hsl ho hown
    rw [hL2]
    by_cases m0 : d0.length = 32
    · have i0 : (d0.length : Int) = 32 := by omega
      have hno := noBL8 (NoB.i i) (NoB.i n) hpa hsi (NoB.s A b.length c) hro (NoB.i lo) (NoB.i hi)
      have k0 := sd0.poke (j := 5) (v' := .slice Aa d0.length ca) hx hno
      have k1 := sd1.poke (j := 5) (v' := .slice Aa d0.length ca) hx hno
      have x5 := hx.cell 5
      have f5 := hx.frozen 5
      simp only [List.getElem?_cons_zero, List.getElem?_cons_succ] at x5
      have z1 : (w3.setCell ⟨g, 5, none⟩ (.slice Aa d0.length ca)).cell? ⟨b6, o6 + 1, none⟩ = some (.slice Ab d1.length cb) := (World.cell?_setCell_other _ _ _ _ (fun e => hb6g (by injection e with e; exact e.symm))).trans y1
      have hx6 := hx.set 5 (.slice Aa d0.length ca)
      simp only [List.set_cons_zero, List.set_cons_succ] at hx6
      have hg5 := setCell_grown w3 g 5 (.slice Aa d0.length ca)
      have hs5 : (w3.setCell ⟨g, 5, none⟩ (.slice Aa d0.length ca)).heap.size = w3.heap.size := by simp [World.setCell]
      have hun := unspan_any _ _ d1 _ k1 (by rw [hs5]; exact Nat.le_refl _)
      unfold UnPost at hun
      have hg1 := gbelow (g := g) hbA
      replace hx := Lib.hid hx
      replace hg1 := Lib.hid (ggo hg1 hg5)
      replace hun := Lib.hid hun
      replace m0 := Lib.hid m0
      clear sd0 sd1 hg5 hbA hb1 hb3 hu
      go_wp2_with fail
      refine hun.out.mono ?_
      rintro e w4 ⟨rfl, hb4⟩
      have hx7 := hx6.below hb4
      have x6 := hx7.cell 6
      have x7 := hx7.cell 7
      have f6 := hx7.frozen 6
      have f7 := hx7.frozen 7
      simp only [List.getElem?_cons_zero, List.getElem?_cons_succ] at x6 x7
      have hg4 := ggo hg1.out (gbelow (g := g) hb4)
      have k4 := (k0.more (by rw [hs5]; exact Nat.le_refl _)).below hb4
      dsimp only
      cases hok : unOk d1 with
      | true =>
        have hc : Hid (contOk b = true) := by show _ = _; rw [hcd.out]; simp [hnm, m0.out, hok]
        have e1 : unA d1 = unLo d1 := by simp [unA, hok]
        have e2 : unB d1 = unHi d1 := by simp [unB, hok]
        have e3 : unC d1 = 0 := by simp [unC, hok]
        rw [e1, e2, e3]
        generalize hl1 : unLo d1 = l1 at *
        generalize hl2 : unHi d1 = l2 at *
        replace hl1 := Lib.hid hl1
        replace hl2 := Lib.hid hl2
        have hw6 : ∀ x y : Value, w4.heap.size ≤ ((w4.setCell ⟨g, 6, none⟩ x).setCell ⟨g, 7, none⟩ y).heap.size := fun x y => by simp [World.setCell]
        replace hok := Lib.hid hok
        replace hnm := Lib.hid hnm
        have hx8 := hx7.set 6 (.int .i64 l1)
        have hx9 := hx8.set 7 (.int .i64 l2)
        simp only [List.set_cons_zero, List.set_cons_succ] at hx8 hx9
        have hno4 := noBL8 (NoB.i i) (NoB.i n) hpa hsi (NoB.s A b.length c) (NoB.s Aa d0.length ca) (NoB.i lo) (NoB.i hi)
        have hno5 := noBL8 (NoB.i i) (NoB.i n) hpa hsi (NoB.s A b.length c) (NoB.s Aa d0.length ca) (NoB.i l1) (NoB.i hi)
        have k5 := (k4.poke (j := 6) (v' := .int .i64 l1) hx7 hno4).poke (j := 7) (v' := .int .i64 l2) hx8 hno5
        have hg9 := ggo (ggo hg4 (setCell_grown w4 g 6 (.int .i64 l1))) (setCell_grown _ g 7 (.int .i64 l2))
        replace hx9 := Lib.hid hx9
        replace k5 := Lib.hid k5
        replace hg9 := Lib.hid hg9
        clear hx8 hx6 k4 k0 k1 hg4
        go_wp2_with fail
        go_ret
        exact ⟨by rw [hc.out]; rfl, hg9.out, fun _ => ⟨.slice Aa d0.length ca, by rw [hl1.out, hl2.out]; exact hx9.out, k5.out.more (Nat.le_trans hb4.size (hw6 _ _))⟩⟩
      | false =>
        have hc : Hid (contOk b = false) := by show _ = _; rw [hcd.out]; simp [hnm, m0.out, hok]
        have e1 : unA d1 = 0 := by simp [unA, hok]
        have e2 : unB d1 = 0 := by simp [unB, hok]
        have e3 : unC d1 = 3 := by simp [unC, hok]
        rw [e1, e2, e3]
        replace hok := Lib.hid hok
        replace hnm := Lib.hid hnm
        have hg9 := Lib.hid (ggo (ggo hg4 (setCell_grown w4 g 6 (.int .i64 0))) (setCell_grown _ g 7 (.int .i64 0)))
        clear hg4
        go_wp2_with fail
        go_ret
        exact ⟨by rw [hc.out]; rfl, hg9.out, fun h => by rw [hc.out] at h; exact absurd h (by simp)⟩
    · have i0 : ¬ (d0.length : Int) = 32 := by omega
      have hc : Hid (contOk b = false) := by show _ = _; rw [hcd.out]; simp [m0]
      replace m0 := Lib.hid m0
      go_wp2_with fail
      go_ret
      exact ⟨by rw [hc.out]; rfl, grown_of _ _ _ hbA, fun h => by rw [hc.out] at h; exact absurd h (by simp)⟩
  · have hc : Hid (contOk b = false) := by show _ = _; rw [hcd.out]; simp [hnm]
    go_wp2_with fail
    go_ret
    exact ⟨by rw [hc.out]; rfl, grown_of _ _ _ (bgo hbA hb3), fun h => by rw [hc.out] at h; exact absurd h (by simp)⟩
end
section
open Go.RowKit
set_option linter.unusedVariables false
theorem box_set8 {W : World} {g : Nat} {T : TypeId} {a0 a1 a2 a3 a4 a5 a6 a7 : Value} (h : Box W g T [a0, a1, a2, a3, a4, a5, a6, a7]) (x0 x1 x2 x3 x4 x5 x6 x7 : Value) : Box ((((((((W.setCell ⟨g, 0, none⟩ x0).setCell ⟨g, 1, none⟩ x1).setCell ⟨g, 2, none⟩ x2).setCell ⟨g, 3, none⟩ x3).setCell ⟨g, 4, none⟩ x4).setCell ⟨g, 5, none⟩ x5).setCell ⟨g, 6, none⟩ x6).setCell ⟨g, 7, none⟩ x7) g T [x0, x1, x2, x3, x4, x5, x6, x7] := by
  have y := (((((((h.set 0 x0).set 1 x1).set 2 x2).set 3 x3).set 4 x4).set 5 x5).set 6 x6).set 7 x7
  simpa only [List.set_cons_zero, List.set_cons_succ] using y
theorem below_set8 {w W : World} {g : Nat} (h : Below w.heap.size w W) (hg : w.heap.size ≤ g) (x0 x1 x2 x3 x4 x5 x6 x7 : Value) : Below w.heap.size w ((((((((W.setCell ⟨g, 0, none⟩ x0).setCell ⟨g, 1, none⟩ x1).setCell ⟨g, 2, none⟩ x2).setCell ⟨g, 3, none⟩ x3).setCell ⟨g, 4, none⟩ x4).setCell ⟨g, 5, none⟩ x5).setCell ⟨g, 6, none⟩ x6).setCell ⟨g, 7, none⟩ x7) :=
  ((((((((h.setCell (p := ⟨g, 0, none⟩) hg _).setCell (p := ⟨g, 1, none⟩) hg _).setCell (p := ⟨g, 2, none⟩) hg _).setCell (p := ⟨g, 3, none⟩) hg _).setCell (p := ⟨g, 4, none⟩) hg _).setCell (p := ⟨g, 5, none⟩) hg _).setCell (p := ⟨g, 6, none⟩) hg _).setCell (p := ⟨g, 7, none⟩) hg _)
theorem SeesB.poke8 {W : World} {B g : Nat} {T : TypeId} {u a0 a1 a2 a3 a4 a5 a6 a7 : Value} {l : Bs} (h : SeesB W B u l) (hx : Box W g T [a0, a1, a2, a3, a4, a5, a6, a7]) (p0 : NoB a0) (p1 : NoB a1) (p2 : NoB a2) (p3 : NoB a3) (p4 : NoB a4) (p5 : NoB a5) (p6 : NoB a6) (p7 : NoB a7) (x0 x1 x2 x3 x4 x5 x6 x7 : Value) (q0 : NoB x0) (q1 : NoB x1) (q2 : NoB x2) (q3 : NoB x3) (q4 : NoB x4) (q5 : NoB x5) (q6 : NoB x6) :
    SeesB ((((((((W.setCell ⟨g, 0, none⟩ x0).setCell ⟨g, 1, none⟩ x1).setCell ⟨g, 2, none⟩ x2).setCell ⟨g, 3, none⟩ x3).setCell ⟨g, 4, none⟩ x4).setCell ⟨g, 5, none⟩ x5).setCell ⟨g, 6, none⟩ x6).setCell ⟨g, 7, none⟩ x7) B u l := by
  have k0 := h.poke (j := 0) (v' := x0) hx (noBL8 p0 p1 p2 p3 p4 p5 p6 p7)
  have y0 := hx.set 0 x0
  simp only [List.set_cons_zero] at y0
  have k1 := k0.poke (j := 1) (v' := x1) y0 (noBL8 q0 p1 p2 p3 p4 p5 p6 p7)
  have y1 := y0.set 1 x1
  simp only [List.set_cons_zero, List.set_cons_succ] at y1
  have k2 := k1.poke (j := 2) (v' := x2) y1 (noBL8 q0 q1 p2 p3 p4 p5 p6 p7)
  have y2 := y1.set 2 x2
  simp only [List.set_cons_zero, List.set_cons_succ] at y2
  have k3 := k2.poke (j := 3) (v' := x3) y2 (noBL8 q0 q1 q2 p3 p4 p5 p6 p7)
  have y3 := y2.set 3 x3
  simp only [List.set_cons_zero, List.set_cons_succ] at y3
  have k4 := k3.poke (j := 4) (v' := x4) y3 (noBL8 q0 q1 q2 q3 p4 p5 p6 p7)
  have y4 := y3.set 4 x4
  simp only [List.set_cons_zero, List.set_cons_succ] at y4
  have k5 := k4.poke (j := 5) (v' := x5) y4 (noBL8 q0 q1 q2 q3 q4 p5 p6 p7)
  have y5 := y4.set 5 x5
  simp only [List.set_cons_zero, List.set_cons_succ] at y5
  have k6 := k5.poke (j := 6) (v' := x6) y5 (noBL8 q0 q1 q2 q3 q4 q5 p6 p7)
  have y6 := y5.set 6 x6
  simp only [List.set_cons_zero, List.set_cons_succ] at y6
  have k7 := k6.poke (j := 7) (v' := x7) y6 (noBL8 q0 q1 q2 q3 q4 q5 q6 p7)
  exact k7
theorem OwnL.poke8 {W : World} {base g : Nat} {T : TypeId} {u a0 a1 a2 a3 a4 a5 a6 a7 : Value} {l : List Bs} (h : OwnL W base u l) (hG : g < base) (hx : Box W g T [a0, a1, a2, a3, a4, a5, a6, a7]) (p0 : NoB a0) (p1 : NoB a1) (p2 : NoB a2) (p3 : NoB a3) (p4 : NoB a4) (p5 : NoB a5) (p6 : NoB a6) (p7 : NoB a7) (x0 x1 x2 x3 x4 x5 x6 x7 : Value) (q0 : NoB x0) (q1 : NoB x1) (q2 : NoB x2) (q3 : NoB x3) (q4 : NoB x4) (q5 : NoB x5) (q6 : NoB x6) :
    OwnL ((((((((W.setCell ⟨g, 0, none⟩ x0).setCell ⟨g, 1, none⟩ x1).setCell ⟨g, 2, none⟩ x2).setCell ⟨g, 3, none⟩ x3).setCell ⟨g, 4, none⟩ x4).setCell ⟨g, 5, none⟩ x5).setCell ⟨g, 6, none⟩ x6).setCell ⟨g, 7, none⟩ x7) base u l := by
  have k0 := h.poke (j := 0) (v' := x0) hG hx (noBL8 p0 p1 p2 p3 p4 p5 p6 p7)
  have y0 := hx.set 0 x0
  simp only [List.set_cons_zero] at y0
  have k1 := k0.poke (j := 1) (v' := x1) hG y0 (noBL8 q0 p1 p2 p3 p4 p5 p6 p7)
  have y1 := y0.set 1 x1
  simp only [List.set_cons_zero, List.set_cons_succ] at y1
  have k2 := k1.poke (j := 2) (v' := x2) hG y1 (noBL8 q0 q1 p2 p3 p4 p5 p6 p7)
  have y2 := y1.set 2 x2
  simp only [List.set_cons_zero, List.set_cons_succ] at y2
  have k3 := k2.poke (j := 3) (v' := x3) hG y2 (noBL8 q0 q1 q2 p3 p4 p5 p6 p7)
  have y3 := y2.set 3 x3
  simp only [List.set_cons_zero, List.set_cons_succ] at y3
  have k4 := k3.poke (j := 4) (v' := x4) hG y3 (noBL8 q0 q1 q2 q3 p4 p5 p6 p7)
  have y4 := y3.set 4 x4
  simp only [List.set_cons_zero, List.set_cons_succ] at y4
  have k5 := k4.poke (j := 5) (v' := x5) hG y4 (noBL8 q0 q1 q2 q3 q4 p5 p6 p7)
  have y5 := y4.set 5 x5
  simp only [List.set_cons_zero, List.set_cons_succ] at y5
  have k6 := k5.poke (j := 6) (v' := x6) hG y5 (noBL8 q0 q1 q2 q3 q4 q5 p6 p7)
  have y6 := y5.set 6 x6
  simp only [List.set_cons_zero, List.set_cons_succ] at y6
  have k7 := k6.poke (j := 7) (v' := x7) hG y6 (noBL8 q0 q1 q2 q3 q4 q5 q6 p7)
  exact k7
theorem size_set8 (W : World) (g : Nat) (x0 x1 x2 x3 x4 x5 x6 x7 : Value) : ((((((((W.setCell ⟨g, 0, none⟩ x0).setCell ⟨g, 1, none⟩ x1).setCell ⟨g, 2, none⟩ x2).setCell ⟨g, 3, none⟩ x3).setCell ⟨g, 4, none⟩ x4).setCell ⟨g, 5, none⟩ x5).setCell ⟨g, 6, none⟩ x6).setCell ⟨g, 7, none⟩ x7).heap.size = W.heap.size := by simp [World.setCell]
end
section
open Go.RowKit
set_option linter.unusedVariables false
theorem strCells_vb (l : Bs) : Lib.strCells (strB l) = vb l := by simp [Lib.strCells, strB, vb, byV]
/-- Where a row lies behind an append. -/
def Moved (w : World) (v v' : Value) : Prop := v'.ownBlock = v.ownBlock ∨ v'.ownBlock = some w.heap.size
theorem run_append_str (w : World) (base : Nat) (ty : TypeId) (v : Value) (l m : Bs) (hown : OwnB w base v l) (hlen : l.length + m.length ≤ 140737488355328) (hbase : base ≤ w.heap.size) :
    ∃ v' w', (Builtin.append_ #[23, 9] ty #[v, .string (strB m)]).run Tryz.prog w = .ok v' w' ∧ OwnB w' base v' (l ++ m) ∧ w.grownBy w' v.ownBlock ∧ Moved w v v' := by
  obtain ⟨i, hi, hz, hsz, hby⟩ := info_parts byte_info
  have hsize : (strB m).size = m.length := by simp [strB, ByteArray.size]
  obtain ⟨v', w', hrun, h2, h3, h4⟩ := Lib.run_append_own_string (P := Tryz.prog) w base 23 9 ty 5 i Tryz.underlying23 Tryz.underlying9 hi hz hsz hby v l.length (vb l) hown (strB m) (by unfold maxLen; omega) (by omega) hbase
  rw [strCells_vb, hsize] at h2
  refine ⟨v', w', hrun, ?_, h3, ?_⟩
  · unfold OwnB
    rw [vb_append, List.length_append]
    exact h2
  · rcases hown.2 with ⟨rfl, h0⟩ | ⟨g0, cap0, cur0, rfl, hbg0, hg0, hnc0, hcm0, hcs0, htake0⟩
    · by_cases hm : (strB m).size = 0
      · rw [h4.2 ⟨rfl, hm⟩]
        exact .inl rfl
      · have hr := run_append_nil_string (P := Tryz.prog) w 23 9 ty 5 i (.int .u8 0) Tryz.underlying23 Tryz.underlying9 hi hz (strB m) (by omega) (by omega) (by rw [hby]; omega)
        rw [hr] at hrun
        injection hrun with e1 e2
        rw [← e1]
        exact .inr rfl
    · by_cases hroom : l.length + (strB m).size ≤ cap0
      · have hr := Lib.run_append_room_string (P := Tryz.prog) w 23 9 ty 5 i Tryz.underlying23 Tryz.underlying9 hi hsz g0 l.length cap0 cur0 hg0 (strB m) hroom (by omega)
        rw [hr] at hrun
        injection hrun with e1 e2
        rw [← e1]
        exact .inl rfl
      · have hr := Lib.run_append_grow_string (P := Tryz.prog) w 23 9 ty 5 i (.int .u8 0) Tryz.underlying23 Tryz.underlying9 hi hz ⟨g0, 0, none⟩ l.length cap0 (vb l) (by rw [vb_len, hsz, Nat.mul_one]) (fun j u hj => by
          rw [add_zero', Nat.zero_add, World.ownsRow.cellAt hown j (by have := (List.getElem?_eq_some_iff.1 hj).1; rw [vb_len] at this; omega)]
          exact hj) (strB m) (by omega) (by omega) (growslice_fits (by omega) (by rw [hby]; omega))
        rw [hr] at hrun
        injection hrun with e1 e2
        rw [← e1]
        exact .inr rfl
theorem wp_appS {o : Oper} {a : Act} {w : World} {K : Act → World → Prop} {Q : Exit → Act → World → Prop} (s x : Operand)
    (ho : o.op = .call { callee := .builtin .append, args := #[s, x], argTypes := #[23, 9] })
    (base : Nat) (v : Value) (l m : Bs) (hs : a.eval s = v) (hown : OwnB w base v l) (S : ByteArray) (hS : S = strB m) (hx : a.eval x = .string S)
    (hlen : l.length + m.length ≤ 140737488355328) (hbase : base ≤ w.heap.size)
    (h : ∀ v' w', OwnB w' base v' (l ++ m) → w.grownBy w' v.ownBlock → Moved w v v' → K (a.put o.dst v') w') : o.wp Tryz.prog a w K Q := by
  subst hS
  obtain ⟨v', w', hrun, h2, h3, h4⟩ := run_append_str w base o.type v l m hown hlen hbase
  unfold Oper.wp execOp
  simp only [ho, resolve, invoke, builtin, Sem.run_bind, Sem.run_pure, Result.andThen_ok, List.map_toArray, List.map_cons, List.map_nil, hs, hx, hrun]
  exact h v' w' h2 h3 h4
theorem step_appS {ops : Array Oper} {o : Oper} {a : Act} {w : World} {K : Act → World → Prop} {Q : Exit → Act → World → Prop} {E : Prop} (hgd : o.guard = none) (s x : Operand)
    (ho : o.op = .call { callee := .builtin .append, args := #[s, x], argTypes := #[23, 9] })
    (base : Nat) (v : Value) (l m : Bs) (hs : a.eval s = v) (hown : OwnB w base v l) (S : ByteArray) (hS : S = strB m) (hx : a.eval x = .string S)
    (hlen : l.length + m.length ≤ 140737488355328) (hbase : base ≤ w.heap.size)
    (h : ∀ v' w', OwnB w' base v' (l ++ m) → w.grownBy w' v.ownBlock → Moved w v v' → K (a.put o.dst v') w') : if Region.wanted o (yielded ops a.tmps) = true then Oper.wp Tryz.prog o a w K Q else E := by
  have hw : Region.wanted o (yielded ops a.tmps) = true := by simp [Region.wanted, hgd]
  rw [if_pos hw]
  exact wp_appS s x ho base v l m hs hown S hS hx hlen hbase h
theorem wp_appM {o : Oper} {a : Act} {w : World} {K : Act → World → Prop} {Q : Exit → Act → World → Prop} (s x : Operand)
    (ho : o.op = .call { callee := .builtin .append, args := #[s, x], argTypes := #[23, 23] })
    (base : Nat) (v : Value) (l : Bs) (hs : a.eval s = v) (hown : OwnB w base v l) (B : Nat) (u : Value) (m : Bs) (hx : a.eval x = u) (hr : SeesB w B u m)
    (hlen : l.length + m.length ≤ 140737488355328) (hbase : base ≤ w.heap.size)
    (h : ∀ v' w', OwnB w' base v' (l ++ m) → w.grownBy w' v.ownBlock → Moved w v v' → K (a.put o.dst v') w') : o.wp Tryz.prog a w K Q := by
  obtain ⟨i, hi, hz, hsz, hby⟩ := info_parts byte_info
  refine wp_append_sees s x 23 ho base 5 i (.int .u8 0) 1 1 Tryz.underlying23 hi hz hsz hby rfl (by omega) v l.length (vb l) hs hown B u m.length (vb m) hx hr (vb_one m) (by unfold maxLen; omega) (by omega) hbase ?_
  intro v' w' h1 h2 h3
  refine h v' w' ?_ h2 h3
  unfold OwnB
  rw [vb_append, List.length_append]
  exact h1
theorem wpList_appM {ops : Array Oper} {rest : List Oper} {o : Oper} {a : Act} {w : World} {Q : Exit → Act → World → Prop} (hgd : Region.wanted o (yielded ops a.tmps) = true) (s x : Operand)
    (ho : o.op = .call { callee := .builtin .append, args := #[s, x], argTypes := #[23, 23] })
    (base : Nat) (v : Value) (l : Bs) (hs : a.eval s = v) (hown : OwnB w base v l) (B : Nat) (u : Value) (m : Bs) (hx : a.eval x = u) (hr : SeesB w B u m)
    (hlen : l.length + m.length ≤ 140737488355328) (hbase : base ≤ w.heap.size)
    (h : ∀ v' w', OwnB w' base v' (l ++ m) → w.grownBy w' v.ownBlock → Moved w v v' → wpList Tryz.prog ops Q rest (a.put o.dst v') w') : wpList Tryz.prog ops Q (o :: rest) a w :=
  BigFrame.wpList_want hgd fun _ hK => wp_appM s x ho base v l hs hown B u m hx hr hlen hbase fun v' w' h2 h3 h4 => hK _ _ (h v' w' h2 h3 h4)
theorem step_appM {ops : Array Oper} {o : Oper} {a : Act} {w : World} {K : Act → World → Prop} {Q : Exit → Act → World → Prop} {E : Prop} (hgd : o.guard = none) (s x : Operand)
    (ho : o.op = .call { callee := .builtin .append, args := #[s, x], argTypes := #[23, 23] })
    (base : Nat) (v : Value) (l : Bs) (hs : a.eval s = v) (hown : OwnB w base v l) (B : Nat) (u : Value) (m : Bs) (hx : a.eval x = u) (hr : SeesB w B u m)
    (hlen : l.length + m.length ≤ 140737488355328) (hbase : base ≤ w.heap.size)
    (h : ∀ v' w', OwnB w' base v' (l ++ m) → w.grownBy w' v.ownBlock → Moved w v v' → K (a.put o.dst v') w') : if Region.wanted o (yielded ops a.tmps) = true then Oper.wp Tryz.prog o a w K Q else E := by
  have hw : Region.wanted o (yielded ops a.tmps) = true := by simp [Region.wanted, hgd]
  rw [if_pos hw]
  exact wp_appM s x ho base v l hs hown B u m hx hr hlen hbase h
/-- Two rows do not lie in one block. -/
def Apart (v u : Value) : Prop := ∀ k, v.ownBlock = some k → u.ownBlock ≠ some k
theorem Apart.symm {v u : Value} (h : Apart v u) : Apart u v := fun k hk e => h k e hk
theorem Apart.nil (u : Value) : Apart (.slice none 0 0) u := fun k hk => by cases hk
theorem OwnB.apart {w w' : World} {base : Nat} {v u : Value} {l : Bs} (h : OwnB w base u l) (hg : w.grownBy w' v.ownBlock) (ha : Apart v u) : OwnB w' base u l := by
  refine World.ownsRow.kept h hg ?_
  rcases hu : u.ownBlock with _ | k
  · exact .inl rfl
  · refine .inr fun e => ?_
    exact ha k e.symm hu
theorem Apart.moved {w : World} {base : Nat} {v v' u : Value} {l : Bs} (ha : Apart v u) (hm : Moved w v v') (hu : OwnB w base u l) : Apart v' u := fun k hk e => by
  rcases hm with h | h
  · exact ha k (by rw [← h]; exact hk) e
  · rw [h] at hk
    cases hk
    have := (World.ownsRow.lt hu _ e).2
    omega
theorem below_grown {w w' : World} {base : Nat} {v : Value} {l : Bs} (h : OwnB w base v l) (hg : w.grownBy w' v.ownBlock) (hb : base ≤ w.heap.size) : Below base w w' := below_of_grown h hg hb
end
section
open Go.RowKit
set_option linter.unusedVariables false
attribute [local go_sem ↓] Go.wp_at_zero Go.wp_at_succ
def EncP (ts : List (Bs × Bs)) (w : World) (e : Ending) (w' : World) : Prop := ∃ v, e = .returned (.tuple #[v, .int .i64 (encC ts)]) ∧ OwnB w' w.heap.size v (encT ts) ∧ Below w.heap.size w w'
theorem enc_bad {ts : List (Bs × Bs)} {c : Int} (h : encC ts = c) (hc : c ≠ 0) {w w' : World} {e : Ending} (he : e = .returned (.tuple #[.slice none 0 0, .int .i64 c])) (hb : Below w.heap.size w w') : EncP ts w e w' := by
  refine ⟨.slice none 0 0, by rw [h]; exact he, ?_, hb⟩
  rw [encT, h, if_neg hc]
  exact World.ownsRow_nil _ _ _ 1
theorem enc_ok {ts : List (Bs × Bs)} {v : Value} (h : encC ts = 0) {w w' : World} {e : Ending} (he : e = .returned (.tuple #[v, .int .i64 0])) (h1 : OwnB w' w.heap.size v (bodyT ts)) (hb : Below w.heap.size w w') : EncP ts w e w' := by
  refine ⟨v, by rw [h]; exact he, ?_, hb⟩
  rw [encT, h, if_pos rfl]
  exact h1
theorem enc_two {w0 w1 w2 : World} {base : Nat} {v5 v6 v7 v6' v7' : Value} {l5 l6 l7 l6' l7' : Bs} (h5 : OwnB w0 base v5 l5) (h6 : OwnB w0 base v6 l6) (h7 : OwnB w0 base v7 l7) (a56 : Apart v5 v6) (a57 : Apart v5 v7) (a67 : Apart v6 v7)
    (g1 : w0.grownBy w1 v6.ownBlock) (m1 : Moved w0 v6 v6') (h6' : OwnB w1 base v6' l6') (g2 : w1.grownBy w2 v7.ownBlock) (m2 : Moved w1 v7 v7') (h7' : OwnB w2 base v7' l7') (hb : base ≤ w0.heap.size) :
    OwnB w2 base v5 l5 ∧ OwnB w2 base v6' l6' ∧ OwnB w2 base v7' l7' ∧ Apart v5 v6' ∧ Apart v5 v7' ∧ Apart v6' v7' ∧ Below base w0 w2 := by
  have x5 := h5.apart g1 a56.symm
  have x7 := h7.apart g1 a67
  have b1 := below_grown h6 g1 hb
  have b2 := below_grown x7 g2 (Nat.le_trans hb g1.size)
  have c67 := a67.moved m1 h7
  have c56 := a56.symm.moved m1 h5
  refine ⟨x5.apart g2 a57.symm, h6'.apart g2 c67.symm, h7', c56.symm, (a57.symm.moved m2 x5).symm, (c67.symm.moved m2 h6').symm, b1.trans b2⟩
theorem Box.apartV {w w' : World} {p : Nat} {T : TypeId} {xs : List Value} {v : Value} (h : Box w p T xs) (hg : w.grownBy w' v.ownBlock) (hne : v.ownBlock ≠ some p) : Box w' p T xs :=
  (hg.block p h.lt (fun e => hne e.symm)).trans h
theorem dataT_take (ts : List (Bs × Bs)) (k : Nat) : (dataT (ts.take k)).length ≤ (dataT ts).length := by
  have h : dataT ts = dataT (ts.take k) ++ dataT (ts.drop k) := by
    unfold dataT
    rw [← List.flatten_append, ← List.map_append, List.take_append_drop]
  rw [h, List.length_append]
  omega
set_option maxRecDepth 100000 in
set_option maxHeartbeats 4000000 in
theorem encode_any (B : Nat) (u : Value) (ts : List (Bs × Bs)) (w : World) (hu : SeesR w B u 2 ts.length (tagS ts)) (hB : B ≤ w.heap.size) (hn : ts.length ≤ 1048576) (hd : (dataT ts).length ≤ 1048576) :
    Calls Tryz.prog 50 #[u] w (EncP ts w) := by
  obtain ⟨A, c, rfl, -, -⟩ := hu.mk_
  by_cases hl : ts.length < 1 ∨ 16 < ts.length
  · have hbad : Hid (encC ts = 8) := by show _ = _; rw [encC, if_pos hl]
    rcases hl with hl | hl
    · have i0 : (ts.length : Int) < 1 := by omega
      go_enter Tryz.func50, Tryz.ntmps50
      go_wp2_with fail
      go_returns
      exact enc_bad hbad.out (by decide) rfl (Below.refl _ _)
    · have i0 : ¬ (ts.length : Int) < 1 := by omega
      have i1 : (16 : Int) < (ts.length : Int) := by omega
      go_enter Tryz.func50, Tryz.ntmps50
      go_wp2_with fail
      go_returns
      exact enc_bad hbad.out (by decide) rfl (Below.refl _ _)
  · have i0 : ¬ (ts.length : Int) < 1 := by omega
    have i1 : ¬ (16 : Int) < (ts.length : Int) := by omega
    have hck := Lib.hid (tcheck_any B _ ts w hu hB hn)
    by_cases hc0 : checkT [] ts = 0
    · have hec : Hid (encC ts = if 2048 < (bodyT ts).length then 2 else 0) := by show _ = _; rw [encC, if_neg hl, if_pos hc0]
      have hok := Lib.hid (checkT_ok ts [] hc0)
      have hnl : 1 ≤ ts.length ∧ ts.length ≤ 16 := by omega
      clear hl
      rw [hc0] at hck
      replace hc0 := Lib.hid hc0
      replace hu := Lib.hid hu
      go_enter Tryz.func50, Tryz.ntmps50
      go_wp2_with fail
      refine hck.out.mono ?_
      rintro e w1 ⟨rfl, hb1⟩
      clear hck
      dsimp only
      go_wp2_with fail
      go_loopw [5, 6, 7, 26] (fun v5 v6 v7 t wr => ∃ k : Nat, k ≤ ts.length ∧ t = .int .i64 k ∧ Hid (OwnB wr w.heap.size v5 (placesT ts (k - 1))) ∧ Hid (OwnB wr w.heap.size v6 (namesT (ts.take k))) ∧ Hid (OwnB wr w.heap.size v7 (dataT (ts.take k))) ∧ Hid (Apart v5 v6) ∧ Hid (Apart v5 v7) ∧ Hid (Apart v6 v7) ∧ Hid (Below w.heap.size w wr)) (fun _ _ _ t _ => ts.length - (intOf t).toNat)
      case atStart => exact ⟨0, by omega, rfl, World.ownsRow_nil _ _ _ 1, World.ownsRow_nil _ _ _ 1, World.ownsRow_nil _ _ _ 1, Apart.nil _, Apart.nil _, Apart.nil _, hb1⟩
      case round =>
        clear hb1
        obtain ⟨k, hk, rfl, h5, h6, h7, a56, a57, a67, hb⟩ := hrel
        obtain ⟨A7, c7, rfl, -, -⟩ := h7.out.sees.mk_
        by_cases hlt : k < ts.length
        · obtain ⟨t, ht⟩ : ∃ t, ts[k]? = some t := ⟨ts[k], List.getElem?_eq_getElem hlt⟩
          obtain ⟨b, o, A', c', rfl, hbB, x0, x1, sd⟩ := tag_at (hu.out.below (hb.out.mono hB)) k t ht
          obtain ⟨nm, da⟩ := t
          dsimp only at x0 x1 sd
          have hnm4 : nm.length = 4 := (hok.out (nm, da) (List.mem_of_getElem? ht)).1
          have hs6 : Hid (namesT (ts.take (k + 1)) = namesT (ts.take k) ++ nm) := namesT_step ts k _ ht
          have hs7 : Hid (dataT (ts.take (k + 1)) = dataT (ts.take k) ++ da) := dataT_step ts k _ ht
          have hdl : (dataT (ts.take k)).length + da.length ≤ 1048576 := by
            have h9 := dataT_take ts (k + 1)
            rw [hs7.out, List.length_append] at h9
            omega
          have hnl6 : (namesT (ts.take k)).length ≤ 64 := by
            rw [namesT_len _ (fun t ht => (hok.out t (List.mem_of_mem_take ht)).1), List.length_take]
            omega
          have hpl : (placesT ts (k - 1)).length ≤ 64 := by rw [placesT_len]; omega
          have j0 : (k : Int) < (ts.length : Int) := by omega
          have hal := balloc wr (.cells #[.string (strB nm), .slice A' da.length c'] 92)
          have hbx := Box.new wr 92 [.string (strB nm), .slice A' da.length c']
          change Box (wr.alloc (.cells #[.string (strB nm), .slice A' da.length c'] 92)) _ _ _ at hbx
          have sdW : SeesB (wr.alloc (.cells #[.string (strB nm), .slice A' da.length c'] 92)) w.heap.size (.slice A' da.length c') da := (sd.below (hal.mono (Nat.le_trans hB hb.out.size))).more hB
          have hbW := Lib.hid (bgo hb.out hal)
          have p6 : u6.ownBlock ≠ some wr.heap.size := fun e => by have := (World.ownsRow.lt h6.out _ e).2; omega
          have p7 : (Value.slice A7 (dataT (ts.take k)).length c7).ownBlock ≠ some wr.heap.size := fun e => by have := (World.ownsRow.lt h7.out _ e).2; omega
          have p5 : u5.ownBlock ≠ some wr.heap.size := fun e => by have := (World.ownsRow.lt h5.out _ e).2; omega
          have hSn : strB nm = strB nm := rfl
          replace h5 := Lib.hid (h5.out.below hal)
          replace h6 := Lib.hid (h6.out.below hal)
          replace h7 := Lib.hid (h7.out.below hal)
          have hwp : w.heap.size ≤ wr.heap.size := hb.out.size
          replace hwp := Lib.hid hwp
          clear hal hb sd hSn
          replace hnl6 := Lib.hid hnl6
          replace hpl := Lib.hid hpl
          replace hdl := Lib.hid hdl
          replace hs6 := Lib.hid hs6
          replace hs7 := Lib.hid hs7
          replace sdW := Lib.hid sdW
          replace p6 := Lib.hid p6
          replace p7 := Lib.hid p7
          replace p5 := Lib.hid p5
          replace hbx := Lib.hid hbx
          generalize hN6 : namesT (ts.take k) = N6 at *
          generalize hD7 : dataT (ts.take k) = D7 at *
          generalize hP5 : placesT ts (k - 1) = P5 at *
          replace hN6 := Lib.hid hN6
          replace hD7 := Lib.hid hD7
          replace hP5 := Lib.hid hP5
          generalize hS : strB nm = S at *
          replace hS := Lib.hid hS
          replace hnm4 := Lib.hid hnm4
          have hd7 : D7.length ≤ 1048576 := by have := hdl.out; omega
          have hd7' := Lib.hid hd7
          clear hd7
          by_cases k0 : k = 0
          · have ik : ¬ (0 : Int) < (k : Int) := by omega
            have hP' : Hid (placesT ts (k + 1 - 1) = P5) := by show _ = _; rw [← hP5.out, k0]
            replace k0 := Lib.hid k0
            go_wp2_with fail
            clear x0 x1
            generalize wr.alloc (.cells #[.string S, .slice A' da.length c'] 92) = W at *
            generalize wr.heap.size = p at *
            have hp6 := p6
            have hp7 := p7
            have y0 : W.cell? ⟨p, 0, none⟩ = some (.string S) := hbx.out.cell 0
            have y1 : W.cell? ⟨p, 1, none⟩ = some (.slice A' da.length c') := hbx.out.cell 1
            have hbd : OwnB W.drew w.heap.size u6 N6 := h6.out
            have g6 := Lib.hid hbd
            have g7 : Hid (OwnB W.drew w.heap.size (.slice A7 D7.length c7) D7) := h7.out
            have g5 : Hid (OwnB W.drew w.heap.size u5 P5) := h5.out
            have gbx : Hid (Box W.drew p 92 [.string S, .slice A' da.length c']) := hbx.out
            have gsd : Hid (SeesB W.drew w.heap.size (.slice A' da.length c') da) := sdW.out
            have gbW : Hid (Below w.heap.size w W.drew) := hbW.out.drew
            have hlen6 : N6.length + nm.length ≤ 140737488355328 := by have := hnl6.out; have := hnm4.out; omega
            have hlen7 : D7.length + da.length ≤ 140737488355328 := by have := hdl.out; omega
            have hSS := hS.out.symm
            replace hlen6 := Lib.hid hlen6
            replace hlen7 := Lib.hid hlen7
            replace hSS := Lib.hid hSS
            clear hbd h5 h6 h7 hbx sdW hbW
            go_region_held3 (fun W' : World => W'.cell? ⟨p, 0, none⟩ = some (.string S) ∧ W'.cell? ⟨p, 1, none⟩ = some (.slice A' da.length c'))
              (first | exact ⟨k2bx.out.cell 0, k2bx.out.cell 1⟩ | exact ⟨k1bx.out.cell 0, k1bx.out.cell 1⟩ | exact ⟨gbx.out.cell 0, gbx.out.cell 1⟩ | (go_keep; done))
              (first
                | (refine step_appS (by rfl) _ _ (by rfl) w.heap.size _ N6 nm (by rfl) f6.out S hSS.out (by rfl) hlen6.out ff.out.size ?_; intro v6' w2 hN hgN hmN
                   have k2bx := Lib.hid (k1bx.out.apartV hgN hp6.out)
                   have fin := enc_two g5.out g7.out g6.out a57.out a56.out a67.out.symm hgD hmD hD hgN hmN hN gbW.out.size)
                | (refine step_appM (by rfl) _ _ (by rfl) w.heap.size _ D7 (by rfl) f7.out _ _ da (by rfl) fsd.out hlen7.out ff.out.size ?_; intro v7' w2 hD hgD hmD
                   have k2bx := Lib.hid (k1bx.out.apartV hgD hp7.out)
                   have fin := enc_two g5.out g6.out g7.out a56.out a57.out a67.out hgN hmN hN hgD hmD hD gbW.out.size)
                | (refine step_appS (by rfl) _ _ (by rfl) w.heap.size _ N6 nm (by rfl) g6.out S hSS.out (by rfl) hlen6.out gbW.out.size ?_; intro v6' w1' hN hgN hmN
                   have k1bx := Lib.hid (gbx.out.apartV hgN hp6.out)
                   have f7 := Lib.hid (g7.out.apart hgN a67.out)
                   have fb := below_grown g6.out hgN gbW.out.size
                   have fsd := Lib.hid (gsd.out.below fb)
                   have ff := Lib.hid (gbW.out.trans fb))
                | (refine step_appM (by rfl) _ _ (by rfl) w.heap.size _ D7 (by rfl) g7.out _ _ da (by rfl) gsd.out hlen7.out gbW.out.size ?_; intro v7' w1' hD hgD hmD
                   have k1bx := Lib.hid (gbx.out.apartV hgD hp7.out)
                   have f6 := Lib.hid (g6.out.apart hgD a67.out.symm)
                   have fb := below_grown g7.out hgD gbW.out.size
                   have ff := Lib.hid (gbW.out.trans fb)))
            all_goals
              replace fin := Lib.hid fin
              clear y0 y1
              go_wp2_with fail
              go_roundw
              case rel =>
                refine ⟨k + 1, by omega, by go_num, ?_⟩
                rw [hP'.out, hs6.out, hs7.out]
                first
                  | (obtain ⟨r5, r6, r7, r56, r57, r67, rb⟩ := fin.out
                     exact ⟨r5, r6, r7, r56, r57, r67, gbW.out.trans rb⟩)
                  | (obtain ⟨r5, r7, r6, r57, r56, r76, rb⟩ := fin.out
                     exact ⟨r5, r6, r7, r56, r57, r76.symm, gbW.out.trans rb⟩)
              case measure => simp [intOf]; omega
          · have ik : (0 : Int) < (k : Int) := by omega
            have hpl' : P5.length + 4 ≤ 140737488355328 := by have := hpl.out; omega
            have hP' : Hid (placesT ts (k + 1 - 1) = P5 ++ putB 4 D7.length) := by
              show _ = _
              obtain ⟨m, rfl⟩ : ∃ m, k = m + 1 := ⟨k - 1, by omega⟩
              rw [← hP5.out, ← hD7.out]
              rfl
            replace k0 := Lib.hid k0
            have iw : IntKind.u64.wrap (D7.length : Int) = (D7.length : Int) := by rw [IntKind.wrap_u64]; have := hd7'.out; omega
            have hput := Lib.hid (fun W => put4_any D7.length (by have := hd7'.out; omega) W)
            replace hpl' := Lib.hid hpl'
            go_wp2_with fail
            clear x0 x1
            generalize wr.alloc (.cells #[.string S, .slice A' da.length c'] 92) = W0 at *
            generalize wr.heap.size = p at *
            refine (hput.out _).mono ?_
            rintro e w2 ⟨v2, rfl, f2, hb2⟩
            have f2s := Lib.hid (f2.sees)
            obtain ⟨A2, c2, rfl, -, -⟩ := f2.sees.mk_
            have hl4 := putB_len 4 D7.length
            replace h5 := Lib.hid (h5.out.below hb2)
            replace h6 := Lib.hid (h6.out.below hb2)
            replace h7 := Lib.hid (h7.out.below hb2)
            replace hbx := Lib.hid (hbx.out.below hb2)
            replace sdW := Lib.hid (sdW.out.below (hb2.mono hbW.out.size))
            replace hbW := Lib.hid (bgo hbW.out hb2)
            clear f2 hb2 hput iw
            replace hl4 := Lib.hid hl4
            dsimp only
            go_wp2_with (at_builtin; refine wpList_appM (by rfl) _ _ rfl w.heap.size _ P5 rfl h5.out _ _ (putB 4 D7.length) rfl f2s.out (by rw [hl4.out]; exact hpl'.out) hbW.out.size ?_)
            intro v5' W hW5 hg5 hm5
            have q6 := Lib.hid (h6.out.apart hg5 a56.out)
            have q7 := Lib.hid (h7.out.apart hg5 a57.out)
            have qbx := Lib.hid (hbx.out.apartV hg5 p5.out)
            have qb5 := below_grown h5.out hg5 hbW.out.size
            have b56 := Lib.hid (a56.out.moved hm5 h6.out)
            have b57 := Lib.hid (a57.out.moved hm5 h7.out)
            replace sdW := Lib.hid (sdW.out.below qb5)
            replace hbW := Lib.hid (hbW.out.trans qb5)
            clear h5 h6 h7 hbx a56 a57 p5 hg5 hm5 qb5 f2s hl4 hpl'
            have h5 := Lib.hid hW5
            have h6 := q6
            have h7 := q7
            have hbx := qbx
            have a56 := b56
            have a57 := b57
            clear hW5 q6 q7 qbx b56 b57
            obtain ⟨u5', rfl⟩ : ∃ u5' : Value, u5' = v5' := ⟨_, rfl⟩
            go_wp2_with fail
            have hp6 := p6
            have hp7 := p7
            have y0 : W.cell? ⟨p, 0, none⟩ = some (.string S) := hbx.out.cell 0
            have y1 : W.cell? ⟨p, 1, none⟩ = some (.slice A' da.length c') := hbx.out.cell 1
            have hbd : OwnB W.drew w.heap.size u6 N6 := h6.out
            have g6 := Lib.hid hbd
            have g7 : Hid (OwnB W.drew w.heap.size (.slice A7 D7.length c7) D7) := h7.out
            have g5 : Hid (OwnB W.drew w.heap.size u5' (P5 ++ putB 4 D7.length)) := h5.out
            have gbx : Hid (Box W.drew p 92 [.string S, .slice A' da.length c']) := hbx.out
            have gsd : Hid (SeesB W.drew w.heap.size (.slice A' da.length c') da) := sdW.out
            have gbW : Hid (Below w.heap.size w W.drew) := hbW.out.drew
            have hlen6 : N6.length + nm.length ≤ 140737488355328 := by have := hnl6.out; have := hnm4.out; omega
            have hlen7 : D7.length + da.length ≤ 140737488355328 := by have := hdl.out; omega
            have hSS := hS.out.symm
            replace hlen6 := Lib.hid hlen6
            replace hlen7 := Lib.hid hlen7
            replace hSS := Lib.hid hSS
            clear hbd h5 h6 h7 hbx sdW hbW
            go_region_held3 (fun W' : World => W'.cell? ⟨p, 0, none⟩ = some (.string S) ∧ W'.cell? ⟨p, 1, none⟩ = some (.slice A' da.length c'))
              (first | exact ⟨k2bx.out.cell 0, k2bx.out.cell 1⟩ | exact ⟨k1bx.out.cell 0, k1bx.out.cell 1⟩ | exact ⟨gbx.out.cell 0, gbx.out.cell 1⟩ | (go_keep; done))
              (first
                | (refine step_appS (by rfl) _ _ (by rfl) w.heap.size _ N6 nm (by rfl) f6.out S hSS.out (by rfl) hlen6.out ff.out.size ?_; intro v6' w2 hN hgN hmN
                   have k2bx := Lib.hid (k1bx.out.apartV hgN hp6.out)
                   have fin := enc_two g5.out g7.out g6.out a57.out a56.out a67.out.symm hgD hmD hD hgN hmN hN gbW.out.size)
                | (refine step_appM (by rfl) _ _ (by rfl) w.heap.size _ D7 (by rfl) f7.out _ _ da (by rfl) fsd.out hlen7.out ff.out.size ?_; intro v7' w2 hD hgD hmD
                   have k2bx := Lib.hid (k1bx.out.apartV hgD hp7.out)
                   have fin := enc_two g5.out g6.out g7.out a56.out a57.out a67.out hgN hmN hN hgD hmD hD gbW.out.size)
                | (refine step_appS (by rfl) _ _ (by rfl) w.heap.size _ N6 nm (by rfl) g6.out S hSS.out (by rfl) hlen6.out gbW.out.size ?_; intro v6' w1' hN hgN hmN
                   have k1bx := Lib.hid (gbx.out.apartV hgN hp6.out)
                   have f7 := Lib.hid (g7.out.apart hgN a67.out)
                   have fb := below_grown g6.out hgN gbW.out.size
                   have fsd := Lib.hid (gsd.out.below fb)
                   have ff := Lib.hid (gbW.out.trans fb))
                | (refine step_appM (by rfl) _ _ (by rfl) w.heap.size _ D7 (by rfl) g7.out _ _ da (by rfl) gsd.out hlen7.out gbW.out.size ?_; intro v7' w1' hD hgD hmD
                   have k1bx := Lib.hid (gbx.out.apartV hgD hp7.out)
                   have f6 := Lib.hid (g6.out.apart hgD a67.out.symm)
                   have fb := below_grown g7.out hgD gbW.out.size
                   have ff := Lib.hid (gbW.out.trans fb)))
            all_goals
              replace fin := Lib.hid fin
              clear y0 y1
              go_wp2_with fail
              go_roundw
              case rel =>
                refine ⟨k + 1, by omega, by go_num, ?_⟩
                rw [hP'.out, hs6.out, hs7.out]
                first
                  | (obtain ⟨r5, r6, r7, r56, r57, r67, rb⟩ := fin.out
                     exact ⟨r5, r6, r7, r56, r57, r67, gbW.out.trans rb⟩)
                  | (obtain ⟨r5, r7, r6, r57, r56, r76, rb⟩ := fin.out
                     exact ⟨r5, r6, r7, r56, r57, r76.symm, gbW.out.trans rb⟩)
              case measure => simp [intOf]; omega
        · obtain rfl : k = ts.length := by omega
          have j0 : ¬ (ts.length : Int) < (ts.length : Int) := by omega
          have iw : IntKind.u64.wrap (ts.length : Int) = (ts.length : Int) := by rw [IntKind.wrap_u64]; omega
          have hput := Lib.hid (fun W => put4_any ts.length (by omega) W)
          rw [List.take_of_length_le (Nat.le_refl _)] at h6 h7 a57 a67 ⊢
          obtain ⟨A5, c5, rfl, -, -⟩ := h5.out.sees.mk_
          obtain ⟨A6, c6, rfl, -, -⟩ := h6.out.sees.mk_
          have hbt : Hid ([putB 4 ts.length, placesT ts (ts.length - 1), namesT ts, dataT ts].flatten = bodyT ts) := by show _ = _; simp [bodyT]
          have hbl : Hid ((bodyT ts).length ≤ 1099511627776) := by
            show _ ≤ _
            rw [bodyT_len ts (fun t ht => (hok.out t ht).1) hnl.1]
            omega
          go_wp2_with fail
          refine (hput.out wr).mono ?_
          rintro e w2 ⟨v2, rfl, f2, hb2⟩
          have hl4 := putB_len 4 ts.length
          have s2 := f2.sees
          obtain ⟨A2, c2, rfl, -, -⟩ := f2.sees.mk_
          have s5 := (h5.out.sees.below hb2).more hb2.size
          have s6 := (h6.out.sees.below hb2).more hb2.size
          have s7 := (h7.out.sees.below hb2).more hb2.size
          have hbW := Lib.hid (bgo hb.out hb2)
          have hlit := seesL_lit w2 23 (show SeesAll w2 w2.heap.size [.slice A2 (putB 4 ts.length).length c2, .slice A5 (placesT ts (ts.length - 1)).length c5, .slice A6 (namesT ts).length c6, .slice A7 (dataT ts).length c7] [putB 4 ts.length, placesT ts (ts.length - 1), namesT ts, dataT ts] from ⟨s2, s5, s6, s7, trivial⟩) (by simp [maxLen])
          have hcat := concat_any _ _ _ _ hlit (Nat.le_refl _) (by rw [hbt.out]; exact hbl.out)
          rw [hbt.out] at hcat
          replace hcat := Lib.hid hcat
          have hal2 := Lib.hid (bgo hbW.out (balloc w2 (.cells #[.slice A2 (putB 4 ts.length).length c2, .slice A5 (placesT ts (ts.length - 1)).length c5, .slice A6 (namesT ts).length c6, .slice A7 (dataT ts).length c7] 23)))
          clear s2 s5 s6 s7 h5 h6 h7 a56 a57 a67 hput f2 hb2 hb hlit iw
          dsimp only
          go_wp2_with fail
          refine hcat.out.mono ?_
          rintro e w3 ⟨v3, rfl, f3, hb3⟩
          have f3' : OwnB w3 w.heap.size v3 (bodyT ts) := f3.mono hal2.out.size
          obtain ⟨A3, c3, rfl, -, -⟩ := f3.sees.mk_
          clear hcat f3
          by_cases hlong : 2048 < (bodyT ts).length
          · have hbad : Hid (encC ts = 2) := by show _ = _; rw [hec.out, if_pos hlong]
            have j1 : (2048 : Int) < ((bodyT ts).length : Int) := by omega
            dsimp only
            go_wp2_with fail
            go_returns
            exact enc_bad hbad.out (by decide) rfl (bgo hal2.out hb3)
          · have hgood : Hid (encC ts = 0) := by show _ = _; rw [hec.out, if_neg hlong]
            have j1 : ¬ (2048 : Int) < ((bodyT ts).length : Int) := by omega
            replace f3' := Lib.hid f3'
            dsimp only
            go_wp2_with fail
            go_returns
            exact enc_ok hgood.out rfl f3'.out (bgo hal2.out hb3)
    · have hbad : Hid (encC ts = checkT [] ts) := by show _ = _; rw [encC, if_neg hl, if_neg hc0]
      clear hl
      generalize checkT [] ts = E at *
      have hEb : (E == 0) = false := by rw [beq_eq_false_iff_ne]; exact hc0
      go_enter Tryz.func50, Tryz.ntmps50
      go_wp2_with fail
      refine hck.out.mono ?_
      rintro e w1 ⟨rfl, hb1⟩
      clear hck
      dsimp only
      go_wp2_with fail
      go_returns
      exact enc_bad hbad.out hc0 rfl hb1
end
section
open Go.RowKit
set_option linter.unusedVariables false
attribute [local go_sem ↓] Go.wp_at_zero Go.wp_at_succ
set_option maxRecDepth 100000 in
theorem kwithin_any (v m : Int) (hm : 1 ≤ m) (hm2 : m ≤ 4294967296) (w : World) :
    Calls Tryz.prog 4 #[.int .i64 v, .int .i64 m] w fun e w' => e = .returned (.int .i64 (v % m)) ∧ w' = w := by
  have hne : m ≠ 0 := by omega
  have e1 := Int.emod_nonneg v hne
  have e2 := Int.emod_lt_of_pos v (show 0 < m by omega)
  have hlt : -m < v.tmod m ∧ v.tmod m < m := ⟨by have := Int.lt_tmod_of_pos v (show 0 < m by omega); omega, Int.tmod_lt_of_pos v (by omega)⟩
  have ht : v % m = if v.tmod m < 0 then v.tmod m + m else v.tmod m := by
    have := Int.tmod_eq_emod (a := v) (b := m)
    rw [this] at hlt ⊢
    split at hlt <;> split <;> split <;> omega
  rw [ht]
  clear ht e1 e2
  have hm0 : (m == 0) = false := by rw [beq_eq_false_iff_ne]; exact hne
  by_cases hr : v.tmod m < 0
  · go_enter Tryz.func4, Tryz.ntmps4
    go_wp2_with fail
    go_returns
    exact ⟨ret_int (by simp), rfl⟩
  · go_enter Tryz.func4, Tryz.ntmps4
    go_wp2_with fail
    go_returns
    exact ⟨ret_int (by simp), rfl⟩
end
section
open Go Go.RowKit
set_option linter.unusedVariables false
attribute [local go_sem ↓] Go.wp_at_zero Go.wp_at_succ
def tCase : Bs := [99, 97, 115, 101]
def randK (v : Int) (n : Nat) : Bs := (sha (tCase ++ putB 8 (u64 v))).take n
theorem randK_len (v : Int) (n : Nat) (h : n ≤ 32) : (randK v n).length = n := by rw [randK, List.length_take, sha_len]; omega
theorem lit4_run (W : World) (x0 x1 x2 x3 : Value) : (convert 23 23 (.slice (some ⟨W.heap.size, 0, none⟩) 4 4)).run Tryz.prog (W.alloc (.cells #[x0, x1, x2, x3] 5)) = .ok (.slice (some ⟨W.heap.size, 0, none⟩) 4 4) (W.alloc (.cells #[x0, x1, x2, x3] 5 (4, 5))) :=
  Lib.run_convert_bytes_const W 23 5 #[x0, x1, x2, x3] 4 4 Tryz.underlying23 Tryz.underlying5
theorem litB_sees (W : World) (l : Bs) (m : Nat × Nat) (hl : l.length ≤ 1000) : SeesB (W.alloc (.cells (vb l).toArray 5 m)) (W.heap.size + 1) (.slice (some ⟨W.heap.size, 0, none⟩) l.length l.length) l := by
  refine ⟨by rw [vb_len, Nat.mul_one], _, _, rfl, Nat.le_refl _, by unfold maxLen; omega, fun _ => ⟨W.heap.size, 0, rfl, by omega, fun k u hk => ?_⟩⟩
  rw [← hk, Nat.zero_add, World.cell?_alloc_mark]
  simp
set_option maxRecDepth 100000 in
set_option maxHeartbeats 1000000 in
theorem krandom_any (v : Int) (n : Nat) (hn : n ≤ 32) (w : World) : Calls Tryz.prog 7 #[.int .i64 v, .int .i64 (n : Int)] w (Shows (randK v n) w) := by
  have m0 : IntKind.u64.wrap v = ((u64 v : Nat) : Int) := by rw [IntKind.wrap_u64]; unfold u64; omega
  have hlt : u64 v < 18446744073709551616 := by unfold u64; omega
  have hr : Hid (randK v n = (sha (tCase ++ putB 8 (u64 v))).take n) := rfl
  generalize randK v n = R at *
  generalize u64 v = s at *
  have hlr := fun G (hG : G = w.heap.size) x0 x1 x2 x3 => (show (convert 23 23 (.slice (some ⟨G, 0, none⟩) 4 4)).run Tryz.prog (w.alloc (.cells #[x0, x1, x2, x3] 5)) = .ok (.slice (some ⟨G, 0, none⟩) 4 4) (w.alloc (.cells #[x0, x1, x2, x3] 5 (4, 5))) by subst hG; exact lit4_run w x0 x1 x2 x3)
  have hl0 := hlr w.heap.size rfl (.int .u8 99) (.int .u8 97) (.int .u8 115) (.int .u8 101)
  have hls : SeesB (w.alloc (.cells #[.int .u8 99, .int .u8 97, .int .u8 115, .int .u8 101] 5 (4, 5))) (w.heap.size + 1) (.slice (some ⟨w.heap.size, 0, none⟩) 4 4) tCase := litB_sees w tCase (4, 5) (by simp [tCase])
  have hbl := balloc w (.cells #[.int .u8 99, .int .u8 97, .int .u8 115, .int .u8 101] 5 (4, 5))
  have hsz : (w.alloc (.cells #[.int .u8 99, .int .u8 97, .int .u8 115, .int .u8 101] 5 (4, 5))).heap.size = w.heap.size + 1 := World.size_alloc _ _
  clear hlr
  go_enter Tryz.func7, Tryz.ntmps7
  go_wp2_with fail
  generalize w.alloc (.cells #[.int .u8 99, .int .u8 97, .int .u8 115, .int .u8 101] 5 (4, 5)) = w0 at *
  rw [← hsz] at hls
  generalize hG : w.heap.size = G at hls hbl ⊢
  replace hG := Lib.hid hG
  replace hbl : Hid (Below G w w0) := hbl
  clear hl0
  refine (rput_any s 8 (by omega) hlt w0).mono ?_
  rintro e w1 ⟨v1, rfl, h1, hb1⟩
  obtain ⟨A1, c1, rfl, -, -⟩ := h1.sees.mk_
  replace hls := (hls.below hb1).more hb1.size
  dsimp only
  go_wp2_with fail
  have hl3 := seesL_lit w1 23 (show SeesAll w1 w1.heap.size [.slice (some ⟨G, 0, none⟩) 4 4, .slice A1 (putB 8 s).length c1] [tCase, putB 8 s] from ⟨hls, h1.sees, trivial⟩) (by simp [maxLen])
  have hp8 := putB_len 8 s
  have hfl : [tCase, putB 8 s].flatten = tCase ++ putB 8 s := by simp
  have htc : tCase.length = 4 := rfl
  refine (rjoin_any _ _ _ _ hl3 (Nat.le_refl _) (by rw [hfl]; simp [hp8, htc])).mono ?_
  rintro e w3 ⟨v3, rfl, h3, hb3⟩
  rw [hfl] at h3
  have hw3 := bgo (bgo hb1 (balloc w1 _)) hb3
  have hs3 := hw3.size
  dsimp only
  go_wp2_with fail
  refine (rsum_any _ _ _ _ h3.sees (Nat.le_refl _) (by simp [hp8, htc])).mono ?_
  rintro e w4 ⟨v4, rfl, h4, hb4⟩
  have hf := OwnB.from h4
  have h5 := h4.sees
  have hsl := sha_len (tCase ++ putB 8 s)
  replace hw3 := bgo hw3 hb4
  obtain ⟨A4, c4, rfl, hc1, hc2⟩ := h5.mk_
  generalize sha (tCase ++ putB 8 s) = H at *
  have i0 : (n : Int) ≤ (c4 : Int) := by omega
  have i1 : (0 : Int) ≤ (n : Int) := by omega
  have hcut := h5.take (m := n) (c' := c4) (by omega) (by omega) hc2
  have hfr : From w3.heap.size (.slice A4 n c4) := hf.cut
  replace hsl := Lib.hid hsl
  dsimp only
  go_wp2_with fail
  go_returns
  refine ⟨_, rfl, by rw [hr.out]; exact hcut, ?_, hfr.mono ?_⟩
  · have h9 := hbl.out
    rw [← hG.out] at h9
    exact bgo h9 hw3
  · have h9 := hbl.out
    rw [← hG.out] at h9
    exact Nat.le_trans h9.size hs3
end
section
open Go.RowKit
set_option linter.unusedVariables false
attribute [local go_sem ↓] Go.wp_at_zero Go.wp_at_succ
theorem zip_at (ns ds : List Bs) (k : Nat) (s d : Bs) (h1 : ns[k]? = some s) (h2 : ds[k]? = some d) : (ns.zip ds)[k]? = some (s, d) := by
  exact List.getElem?_zip_eq_some.2 ⟨h1, h2⟩
theorem tagS_one (s d : Bs) : tagS [(s, d)] = [Spec.val (.string (strB s)), Spec.byt d] := rfl
set_option maxRecDepth 100000 in
set_option maxHeartbeats 2000000 in
theorem message_any (B : Nat) (u u2 : Value) (ns ds : List Bs) (w : World) (hu : SeesR w B u 1 ns.length (nameS ns)) (hu2 : SeesL w B u2 ds) (hB : B ≤ w.heap.size) (hl : ns.length = ds.length) (hn : ns.length ≤ 16) (hd : (dataT (ns.zip ds)).length ≤ 1048576) :
    Calls Tryz.prog 21 #[u, u2] w (EncP (ns.zip ds) w) := by
  obtain ⟨A, c, rfl, -, -⟩ := hu.mk_
  obtain ⟨A2, c2, rfl, -, -⟩ := hu2.mk_
  replace hu := Lib.hid hu
  replace hu2 := Lib.hid hu2
  replace hd := Lib.hid hd
  have hz : Hid ((ns.zip ds).length = ns.length) := by show _ = _; rw [List.length_zip]; omega
  have hl2 := Lib.hid hl
  rw [← hl]
  clear hl
  go_enter Tryz.func21, Tryz.ntmps21
  go_wp2_with fail
  go_loopw [6, 11] (fun r t wr => ∃ k : Nat, k ≤ ns.length ∧ t = .int .i64 k ∧ Hid (OwnR wr w.heap.size 92 r 2 k (tagS ((ns.zip ds).take k))) ∧ Hid (Below w.heap.size w wr)) (fun _ t _ => ns.length - (intOf t).toNat)
  case atStart => exact ⟨0, by omega, rfl, OwnR.nil _ _ _ _, Below.refl _ _⟩
  case round =>
    obtain ⟨k, hk, rfl, ho, hb⟩ := hrel
    obtain ⟨Ar, cr, rfl, -, -⟩ := ho.out.sees.mk_
    by_cases hlt : k < ns.length
    · obtain ⟨s, hs⟩ : ∃ s, ns[k]? = some s := ⟨ns[k], List.getElem?_eq_getElem hlt⟩
      have hk2 : k < ds.length := by have := hl2.out; omega
      obtain ⟨b, o, rfl, hbB, y0⟩ := name_at (hu.out.below (hb.out.mono hB)) k s hs
      obtain ⟨b2, o2, rfl, hbB2, hds⟩ := (hu2.out.below (hb.out.mono hB)).at_ (by omega)
      obtain ⟨A', c', y1, -, -, sd⟩ := hds k hk2
      have hdk : ds[k]? = some (ds.getD k []) := by rw [List.getD_eq_getElem?_getD, List.getElem?_eq_getElem hk2]; rfl
      have hstep : Hid ((ns.zip ds).take (k + 1) = (ns.zip ds).take k ++ [(s, ds.getD k [])]) := take_one _ _ _ (zip_at ns ds k s _ hs hdk)
      generalize ds.getD k [] = da at *
      have i0 : (k : Int) < (ns.length : Int) := by omega
      have hel := EltS.of_old (s := .byt da) (v := .slice Ar k cr) (show FitS wr B (.slice A' da.length c') (.byt da) from sd) (Nat.le_trans hB hb.out.size) (fun j hj => Nat.le_trans hB (ho.out.lt j hj).1)
      have hst1 : (Value.string (strB s)).oneCell' = true := rfl
      generalize hS1 : strB s = S1 at *
      have hal := balloc wr (.cells #[.string S1, .slice A' da.length c'] 92)
      have hrec : Hid (Sees (wr.alloc (.cells #[.string S1, .slice A' da.length c'] 92)) (wr.heap.size + 1) (.slice (some ⟨wr.heap.size, 0, none⟩) 1 1) 2 1 [.string S1, .slice A' da.length c']) := rec_lit wr 92 [.string S1, .slice A' da.length c']
      have ho2 := Lib.hid (ho.out.below hal)
      have hel2 := Lib.hid (two_elt hst1 (hel.below hal))
      have hb3 := Lib.hid (bgo hb.out hal)
      generalize hacc : (ns.zip ds).take k = acc at *
      obtain ⟨ti, hti, htz, hts', htby⟩ := info_parts tag_info
      replace hti := Lib.hid hti
      replace htz := Lib.hid htz
      replace hts' := Lib.hid hts'
      replace htby := Lib.hid htby
      replace hS1 := Lib.hid hS1
      replace hacc := Lib.hid hacc
      replace hs := Lib.hid hs
      replace hdk := Lib.hid hdk
      clear hal hel sd hds
      go_wp2_with (at_builtin; refine wpList_appR (by rfl) _ _ 63 92 Tryz.underlying63 rfl ti _ 2 40 hti.out htz.out hts'.out htby.out rfl (by omega) (by omega) w.heap.size _ k _ rfl ho2.out _ _ 1 _ [.val (.string S1), .byt da] rfl hrec.out rfl hel2.out (by omega) hb3.out.size ?_)
      intro v' w' hW2 hb4
      have hW2 := Lib.hid hW2
      have hb4 := Lib.hid (hb3.out.trans hb4)
      go_wp2_with fail
      go_roundw
      case rel => exact ⟨k + 1, by omega, by go_num, by show OwnR _ _ _ _ _ _ _; rw [hstep.out, tagS_append, tagS_one, hS1.out]; exact hW2.out, hb4⟩
      case measure => simp [intOf]; omega
    · obtain rfl : k = ns.length := by omega
      have i0 : ¬ (ns.length : Int) < (ns.length : Int) := by omega
      rw [List.take_of_length_le (Nat.le_of_eq hz.out)] at ho
      have hs9 : SeesR wr wr.heap.size (.slice Ar ns.length cr) 2 (ns.zip ds).length (tagS (ns.zip ds)) := by rw [hz.out]; exact ho.out.sees
      have hen := Lib.hid (encode_any wr.heap.size _ (ns.zip ds) wr hs9 (Nat.le_refl _) (by have := hz.out; omega) hd.out)
      clear hs9
      go_wp2_with fail
      refine hen.out.mono ?_
      rintro e w6 ⟨v6, rfl, o6, hb6⟩
      obtain ⟨A6, c6, rfl, -, -⟩ := o6.sees.mk_
      dsimp only
      go_wp2_with fail
      go_returns
      exact ⟨_, rfl, o6.mono hb.out.size, bgo hb.out hb6⟩
end
section
open Go.RowKit
set_option linter.unusedVariables false
set_option linter.unusedSimpArgs false
attribute [local go_sem ↓] Go.wp_at_zero Go.wp_at_succ
set_option maxRecDepth 100000 in
theorem collect_after (A : Option Addr) (c : Nat) (l : Bs) (N B : Nat) (w : World) (hu : SeesB w B (.slice A l.length c) l) (hB : B ≤ w.heap.size) (hl : l.length = 32 * N) (hN : N ≤ 64) (hc : l.length ≤ c) (W' : World) (n0 n1 : Nat) (hW' : Below w.heap.size w W') (h0 : n0 < W'.heap.size) (h1 : n1 < W'.heap.size)
    (c0 : W'.cell? ⟨n0, 0, none⟩ = some (.slice A l.length c)) (c1 : W'.cell? ⟨n1, 0, none⟩ = some (.int .i64 32)) :
    Calls Tryz.prog 89 #[.func (.func 123) #[] #[.pointer (some ⟨n0, 0, none⟩), .pointer (some ⟨n1, 0, none⟩)]] W' fun e W'' => ∃ v, e = .returned v ∧ OwnL W'' W'.heap.size v (cutL 32 N l) ∧ Below W'.heap.size W' W'' := by
  have hA : ∃ b o, 0 < N → A = some ⟨b, o, none⟩ := by
    rcases Nat.eq_zero_or_pos N with h0 | h0
    · exact ⟨0, 0, fun h => by omega⟩
    · obtain ⟨b, o, e, -⟩ := hu.at_ (by omega)
      exact ⟨b, o, fun _ => e⟩
  obtain ⟨b, o, hA⟩ := hA
  refine (collect_any n0 n1 b o c 32 N A hA (by omega) (by omega) hN (by omega) W' h0 h1 (by rw [← hl]; exact c0) c1).mono ?_
  rintro e W2 ⟨v, rfl, h1, h2⟩
  have hb2 := bgo hW' h2
  have hu2 := hu.below (hb2.mono hB)
  refine ⟨v, rfl, ⟨(List.range N).map (chunkV b o 32), ?_, fun k hk => ?_⟩, h2⟩
  · rw [cutL_len]
    rw [List.length_range] at h1
    exact h1
  · rw [cutL_len] at hk
    have hm : 32 * k + 32 ≤ l.length := by omega
    obtain rfl := hA (by omega)
    refine ⟨chunkV b o 32 k, by rw [List.getElem?_map, List.getElem?_range hk]; rfl, ?_⟩
    rw [cutL_get _ _ _ _ hk]
    exact Elt.of_old (chunk_sees hu2 hm (by omega)) (Nat.le_trans hB hb2.size) (fun j hj => by have := (h1.lt j hj).1; have := hW'.size; omega)
theorem chunk_boxes (w : World) (x : Value) : ∀ W', Below ((w.alloc (.cells #[x] 23)).alloc (.cells #[.int .i64 32] 3)).heap.size ((w.alloc (.cells #[x] 23)).alloc (.cells #[.int .i64 32] 3)) W' →
    w.heap.size < W'.heap.size ∧ w.heap.size + 1 < W'.heap.size ∧ W'.cell? ⟨w.heap.size, 0, none⟩ = some x ∧ W'.cell? ⟨w.heap.size + 1, 0, none⟩ = some (.int .i64 32) := by
  intro W' hW'
  have hx1 := Box.below (Box.new w 23 [x]) (balloc _ (.cells #[.int .i64 32] 3))
  have hx2 := Box.new (w.alloc (.cells #[x] 23)) 3 [.int .i64 32]
  have hz : (w.alloc (.cells #[x] 23)).heap.size = w.heap.size + 1 := World.size_alloc _ _
  rw [hz] at hx2
  replace hx1 := hx1.below hW'
  replace hx2 := hx2.below hW'
  exact ⟨hx1.lt, hx2.lt, hx1.cell 0, hx2.cell 0⟩
theorem noB8 (a b : Int) (u v x y : Value) (hu : NoB u) (hv : NoB v) (hx : NoB x) (hy : NoB y) (c d : Int) : NoByte [.int .i64 a, .int .i64 b, u, v, x, y, .int .i64 c, .int .i64 d] :=
  noBL8 (NoB.i _) (NoB.i _) hu hv hx hy (NoB.i _) (NoB.i _)
/-- A list of lists, read behind writes to a block where it does not lie. -/
theorem SeesL.over {w w' : World} {B g : Nat} {T : TypeId} {u : Value} {ls : List Bs} {xs : List Value} (h : SeesL w B u ls) (hB : B ≤ w.heap.size) (hu : ∀ k, u.ownBlock = some k → k ≠ g) (hbx : Box w g T xs) (hno : NoByte xs) (hg : w.grownBy w' (some g)) : SeesL w' B u ls := by
  obtain ⟨vs, ⟨h0, A, c, hv, h1, h2, h3⟩, hel⟩ := h
  refine ⟨vs, ⟨h0, A, c, hv, h1, h2, fun hn => ?_⟩, fun k hk => ?_⟩
  · obtain ⟨b, o, e, hb, hc⟩ := h3 hn
    refine ⟨b, o, e, hb, fun j x hj => (World.cell?_of_block (hg.block b (by omega) (fun e2 => ?_))).trans (hc j x hj)⟩
    injection e2 with e2
    exact hu b (by rw [hv, e]; rfl) e2
  · obtain ⟨v, g1, g2⟩ := hel k hk
    exact ⟨v, g1, g2.over hB hbx hno hg⟩
theorem grown_set8 (w : World) (g : Nat) (x0 x1 x2 x3 x4 x5 x6 x7 : Value) : w.grownBy ((((((((w.setCell ⟨g, 0, none⟩ x0).setCell ⟨g, 1, none⟩ x1).setCell ⟨g, 2, none⟩ x2).setCell ⟨g, 3, none⟩ x3).setCell ⟨g, 4, none⟩ x4).setCell ⟨g, 5, none⟩ x5).setCell ⟨g, 6, none⟩ x6).setCell ⟨g, 7, none⟩ x7) (some g) :=
  ggo (ggo (ggo (ggo (ggo (ggo (ggo (setCell_grown w g 0 x0) (setCell_grown _ g 1 x1)) (setCell_grown _ g 2 x2)) (setCell_grown _ g 3 x3)) (setCell_grown _ g 4 x4)) (setCell_grown _ g 5 x5)) (setCell_grown _ g 6 x6)) (setCell_grown _ g 7 x7)
theorem Box.apart {w w' : World} {g k : Nat} {T : TypeId} {xs : List Value} (h : Box w k T xs) (hg : w.grownBy w' (some g)) (hne : k ≠ g) : Box w' k T xs :=
  (hg.block k h.lt (fun e => by injection e with e; exact hne e)).trans h
def AnsZ (g : Nat) (w : World) : Prop := Box w g 106 [.int .i64 0, .int .i64 0, .slice none 0 0, .slice none 0 0, .slice none 0 0, .slice none 0 0, .int .i64 0, .int .i64 0]
/-- What region 7 leaves: the answer's block, the path. -/
def R7 (w3 : World) (ix nx : Int) (pt : Value) (ls : List Bs) (v : Value) (W : World) : Prop :=
  ∃ g A c, v = .pointer (some ⟨g, 0, none⟩) ∧ w3.heap.size ≤ g ∧ AnsAt W g ix nx (.slice A ls.length c) (.slice none 0 0) pt (.slice none 0 0) 0 0 ∧
    SeesL W W.heap.size (.slice A ls.length c) ls ∧ (∀ k, (Value.slice A ls.length c).ownBlock = some k → w3.heap.size ≤ k ∧ k ≠ g) ∧ Below w3.heap.size w3 W
theorem r7_set (w3 w5 : World) (ix nx : Int) (A A' : Option Addr) (n' c' c g base : Nat) (ls : List Bs) (hbx : AnsZ g w5) (ho : OwnL w5 base (.slice A ls.length c) ls) (hG : g < base) (h3 : w3.heap.size ≤ g) (hb : Below w3.heap.size w3 w5) :
    R7 w3 ix nx (.slice A' n' c') ls (.pointer (some ⟨g, 0, none⟩)) ((((((((w5.setCell ⟨g, 0, none⟩ (.int .i64 ix)).setCell ⟨g, 1, none⟩ (.int .i64 nx)).setCell ⟨g, 2, none⟩ (.slice A ls.length c)).setCell ⟨g, 3, none⟩ (.slice none 0 0)).setCell ⟨g, 4, none⟩ (.slice A' n' c')).setCell ⟨g, 5, none⟩ (.slice none 0 0)).setCell ⟨g, 6, none⟩ (.int .i64 0)).setCell ⟨g, 7, none⟩ (.int .i64 0)) := by
  have h8 := box_set8 hbx (.int .i64 ix) (.int .i64 nx) (.slice A ls.length c) (.slice none 0 0) (.slice A' n' c') (.slice none 0 0) (.int .i64 0) (.int .i64 0)
  have hk := OwnL.poke8 ho hG hbx (NoB.i _) (NoB.i _) (NoB.s _ _ _) (NoB.s _ _ _) (NoB.s _ _ _) (NoB.s _ _ _) (NoB.i _) (NoB.i _) (.int .i64 ix) (.int .i64 nx) (.slice A ls.length c) (.slice none 0 0) (.slice A' n' c') (.slice none 0 0) (.int .i64 0) (.int .i64 0) (NoB.i _) (NoB.i _) (NoB.s _ _ _) (NoB.s _ _ _) (NoB.s _ _ _) (NoB.s _ _ _) (NoB.i _)
  exact ⟨g, A, c, rfl, h3, h8, hk.sees, fun k hk' => by have := (hk.lt k hk').1; omega, below_set8 hb h3 _ _ _ _ _ _ _ _⟩
theorem r7_new (w3 w5 : World) (ix nx : Int) (A A' : Option Addr) (n' c' c base : Nat) (ls : List Bs) (ho : OwnL w5 base (.slice A ls.length c) ls) (h3 : w3.heap.size ≤ base) (hb : Below w3.heap.size w3 w5) :
    R7 w3 ix nx (.slice A' n' c') ls (.pointer (some ⟨w5.heap.size, 0, none⟩)) (w5.alloc (.cells #[.int .i64 ix, .int .i64 nx, .slice A ls.length c, .slice none 0 0, .slice A' n' c', .slice none 0 0, .int .i64 0, .int .i64 0] 106)) :=
  ⟨w5.heap.size, A, c, rfl, hb.size, Box.new w5 106 [.int .i64 ix, .int .i64 nx, .slice A ls.length c, .slice none 0 0, .slice A' n' c', .slice none 0 0, .int .i64 0, .int .i64 0], (ho.below (balloc w5 _)).sees, fun k hk => by have := ho.lt k hk; omega, bgo hb (balloc _ _)⟩
def CollAt (w3 W : World) (x : Value) (n0 n1 : Nat) : Prop := Below w3.heap.size w3 W ∧ n0 < W.heap.size ∧ n1 < W.heap.size ∧ W.cell? ⟨n0, 0, none⟩ = some x ∧ W.cell? ⟨n1, 0, none⟩ = some (.int .i64 32)
theorem coll_c (w3 : World) (x : Value) : CollAt w3 ((w3.alloc (.cells #[x] 23)).alloc (.cells #[.int .i64 32] 3)).drew x w3.heap.size (w3.heap.size + 1) := by
  obtain ⟨h1, h2, h3, h4⟩ := chunk_boxes w3 x _ (bdrew _)
  exact ⟨bgo (bgo (balloc _ _) (balloc _ _)) (bdrew _), h1, h2, h3, h4⟩
theorem coll_b (w3 : World) (x : Value) (o : Obj) : CollAt w3 (((w3.alloc (.cells #[x] 23)).alloc (.cells #[.int .i64 32] 3)).alloc o).drew x w3.heap.size (w3.heap.size + 1) := by
  obtain ⟨h1, h2, h3, h4⟩ := chunk_boxes w3 x _ (bgo (balloc _ o) (bdrew _))
  exact ⟨bgo (bgo (bgo (balloc _ _) (balloc _ _)) (balloc _ _)) (bdrew _), h1, h2, h3, h4⟩
theorem coll_a (w3 : World) (x : Value) (o : Obj) : CollAt w3 (((w3.alloc o).alloc (.cells #[x] 23)).alloc (.cells #[.int .i64 32] 3)).drew x (w3.heap.size + 1) (w3.heap.size + 1 + 1) := by
  obtain ⟨h1, h2, h3, h4⟩ := chunk_boxes (w3.alloc o) x _ (bdrew _)
  rw [World.size_alloc] at h1 h2 h3 h4
  exact ⟨bgo (bgo (bgo (balloc _ _) (balloc _ _)) (balloc _ _)) (bdrew _), h1, h2, h3, h4⟩
def CollP (w3 : World) (W : World) (ls : List Bs) (e : Ending) (w' : World) : Prop := ∃ A c, e = .returned (.slice A ls.length c) ∧ OwnL w' W.heap.size (.slice A ls.length c) ls ∧ Below w3.heap.size w3 w' ∧ Below W.heap.size W w'
theorem ansZ_cells {g : Nat} {w : World} (h : AnsZ g w) : (w.cell? ⟨g, 0, none⟩ = some (.int .i64 0) ∧ w.cell? ⟨g, 1, none⟩ = some (.int .i64 0) ∧ w.cell? ⟨g, 2, none⟩ = some (.slice none 0 0) ∧ w.cell? ⟨g, 3, none⟩ = some (.slice none 0 0) ∧ w.cell? ⟨g, 4, none⟩ = some (.slice none 0 0) ∧ w.cell? ⟨g, 5, none⟩ = some (.slice none 0 0) ∧ w.cell? ⟨g, 6, none⟩ = some (.int .i64 0) ∧ w.cell? ⟨g, 7, none⟩ = some (.int .i64 0)) ∧
    w.frozen? ⟨g, 0, none⟩ = false ∧ w.frozen? ⟨g, 1, none⟩ = false ∧ w.frozen? ⟨g, 2, none⟩ = false ∧ w.frozen? ⟨g, 3, none⟩ = false ∧ w.frozen? ⟨g, 4, none⟩ = false ∧ w.frozen? ⟨g, 5, none⟩ = false ∧ w.frozen? ⟨g, 6, none⟩ = false ∧ w.frozen? ⟨g, 7, none⟩ = false :=
  ⟨⟨h.cell 0, h.cell 1, h.cell 2, h.cell 3, h.cell 4, h.cell 5, h.cell 6, h.cell 7⟩, h.frozen 0, h.frozen 1, h.frozen 2, h.frozen 3, h.frozen 4, h.frozen 5, h.frozen 6, h.frozen 7⟩
theorem ansZ_a (w3 : World) (x y : Obj) : ∀ W', Below (((w3.alloc (.cells #[.int .i64 0, .int .i64 0, .slice none 0 0, .slice none 0 0, .slice none 0 0, .slice none 0 0, .int .i64 0, .int .i64 0] 106)).alloc x).alloc y).drew.heap.size (((w3.alloc (.cells #[.int .i64 0, .int .i64 0, .slice none 0 0, .slice none 0 0, .slice none 0 0, .slice none 0 0, .int .i64 0, .int .i64 0] 106)).alloc x).alloc y).drew W' → AnsZ w3.heap.size W' := fun W' hW' =>
  Box.below (Box.new w3 106 [.int .i64 0, .int .i64 0, .slice none 0 0, .slice none 0 0, .slice none 0 0, .slice none 0 0, .int .i64 0, .int .i64 0]) (bgo (bgo (bgo (balloc _ _) (balloc _ _)) (bdrew _)) hW')
theorem ansZ_b (w3 : World) (x y : Obj) : ∀ W', Below (((w3.alloc x).alloc y).alloc (.cells #[.int .i64 0, .int .i64 0, .slice none 0 0, .slice none 0 0, .slice none 0 0, .slice none 0 0, .int .i64 0, .int .i64 0] 106)).drew.heap.size (((w3.alloc x).alloc y).alloc (.cells #[.int .i64 0, .int .i64 0, .slice none 0 0, .slice none 0 0, .slice none 0 0, .slice none 0 0, .int .i64 0, .int .i64 0] 106)).drew W' → AnsZ (w3.heap.size + 1 + 1) W' := fun W' hW' => by
  have h9 := Box.new ((w3.alloc x).alloc y) 106 [.int .i64 0, .int .i64 0, .slice none 0 0, .slice none 0 0, .slice none 0 0, .slice none 0 0, .int .i64 0, .int .i64 0]
  rw [show ((w3.alloc x).alloc y).heap.size = w3.heap.size + 1 + 1 by rw [World.size_alloc, World.size_alloc]] at h9
  exact Box.below h9 (bgo (bdrew _) hW')
def parseOk (b : Bs) : Bool :=
  decide ((decT b).map (·.1) = names5) && decide ((datN b 0).length = 4) && decide ((datN b 1).length = 4) && decide ((datN b 2).length % 32 = 0) && (unpadG (datN b 3)).isSome && contOk (datN b 4)
def parseC (b : Bs) : Int := if decC b = 0 then (if parseOk b = true then 0 else 3) else decC b
def zeroA : Value := .agg #[.int .i64 0, .int .i64 0, .slice none 0 0, .slice none 0 0, .slice none 0 0, .slice none 0 0, .int .i64 0, .int .i64 0]
def ParseBP (b : Bs) (w : World) (e : Ending) (w' : World) : Prop :=
  (parseC b ≠ 0 ∧ e = .returned (.tuple #[zeroA, .int .i64 (parseC b)]) ∧ Below w.heap.size w w') ∨
  (parseC b = 0 ∧ ∃ pa si pt ro, e = .returned (.tuple #[.agg #[.int .i64 (getB (datN b 0) : Int), .int .i64 (getB (datN b 1) : Int), pa, si, pt, ro, .int .i64 (unLo (datN (datN b 4) 1)), .int .i64 (unHi (datN (datN b 4) 1))], .int .i64 0]) ∧
    SeesL w' w'.heap.size pa (cutL 32 ((datN b 2).length / 32) (datN b 2)) ∧ (∃ s, unpadG (datN b 3) = some s ∧ SeesB w' w'.heap.size si s) ∧ SeesB w' w'.heap.size pt (datN b 4) ∧ SeesB w' w'.heap.size ro (datN (datN b 4) 0) ∧ Below w.heap.size w w')
theorem unpad_both' {x : Bs} {f : FuncId} {args : Array Value} {w : World} (h : Calls Tryz.prog f args w (UnpadP (unpadG x) w)) : Calls Tryz.prog f args w fun e w' => ∃ A' n' c', e = .returned (.tuple #[.slice A' n' c', .bool (unpadG x).isSome]) ∧ Below w.heap.size w w' ∧ (∀ s, unpadG x = some s → SeesB w' w'.heap.size (.slice A' n' c') s) := by
  refine h.mono ?_
  intro e w' hP
  cases hx : unpadG x with
  | none =>
    rw [hx] at hP
    obtain ⟨A, n, c, rfl, hb⟩ := hP
    exact ⟨A, n, c, rfl, hb, fun s h => by cases h⟩
  | some s =>
    rw [hx] at hP
    obtain ⟨v, rfl, h1, hb⟩ := hP
    obtain ⟨A, c, rfl, -, -⟩ := h1.mk_
    exact ⟨A, _, c, rfl, hb, fun s' h => by cases h; exact h1⟩
set_option maxRecDepth 100000 in
set_option maxHeartbeats 16000000 in
theorem bparse_any (B : Nat) (u : Value) (b : Bs) (w : World) (hu : SeesB w B u b) (hB : B ≤ w.heap.size) (hl : b.length ≤ 1048576) :
    Calls Tryz.prog 60 #[u] w (ParseBP b w) := by
  obtain ⟨A, c, rfl, -, -⟩ := hu.mk_
  have hb0 := balloc w (.cells #[.int .i64 0, .int .i64 0, .slice none 0 0, .slice none 0 0, .slice none 0 0, .slice none 0 0, .int .i64 0, .int .i64 0] 106)
  have hx := Box.new w 106 [.int .i64 0, .int .i64 0, .slice none 0 0, .slice none 0 0, .slice none 0 0, .slice none 0 0, .int .i64 0, .int .i64 0]
  change Box (w.alloc (.cells #[.int .i64 0, .int .i64 0, .slice none 0 0, .slice none 0 0, .slice none 0 0, .slice none 0 0, .int .i64 0, .int .i64 0] 106)) _ _ _ at hx
  have hdec := decode_any B _ b _ (hu.below (hb0.mono hB)) (Nat.le_trans hB hb0.size) hl
  unfold DecP at hdec
  replace hdec := Lib.hid hdec
  go_enter Tryz.func60, Tryz.ntmps60
  go_wp2_with fail
  refine hdec.out.mono ?_
  rintro e w1 ⟨v1, rfl, s1, hb1⟩
  replace hx := hx.below hb1
  replace hb1 := bgo hb0 hb1
  clear hdec hb0
  generalize hg2 : w.heap.size = g2 at hx ⊢
  have hgw : Hid (w.heap.size ≤ g2) := by show _ ≤ _; omega
  replace hg2 := Lib.hid hg2
  replace hb1 := Lib.hid hb1
  have y0 := hx.cell 0
  have y1 := hx.cell 1
  have y2 := hx.cell 2
  have y3 := hx.cell 3
  have y4 := hx.cell 4
  have y5 := hx.cell 5
  have y6 := hx.cell 6
  have y7 := hx.cell 7
  simp only [List.getElem?_cons_zero, List.getElem?_cons_succ] at y0 y1 y2 y3 y4 y5 y6 y7
  have f0 := hx.frozen 0
  have f1 := hx.frozen 1
  have f2 := hx.frozen 2
  have f3 := hx.frozen 3
  have f4 := hx.frozen 4
  have f5 := hx.frozen 5
  have f6 := hx.frozen 6
  have f7 := hx.frozen 7
  dsimp only
  by_cases E0 : decC b = 0
  · rw [E0]
    replace E0 := Lib.hid E0
    have hpo : Hid (parseOk b = (decide ((decT b).map (·.1) = names5) && decide ((datN b 0).length = 4) && decide ((datN b 1).length = 4) && decide ((datN b 2).length % 32 = 0) && (unpadG (datN b 3)).isSome && contOk (datN b 4))) := rfl
    clear y0 y1 y2 y3 y4 y5 y6 y7 f0 f1 f2 f3 f4 f5 f6 f7
    go_wp2_with fail
    refine (names_any w1).mono ?_
    rintro e w2 ⟨v2, rfl, s2, hb2⟩
    have hpt := parts2_any w2.heap.size w2.heap.size v1 v2 (decT b) names5 w2 ((s1.below hb2).more hb2.size) s2 (Nat.le_refl _) (Nat.le_refl _) (Nat.le_trans (decT_len b) (by omega))
    unfold PartsP at hpt
    replace hx := hx.below hb2
    replace hb1 := Lib.hid (bgo hb1.out hb2)
    replace hpt := Lib.hid hpt
    clear s1 s2 hb2
    dsimp only
    go_wp2_with fail
    refine hpt.out.mono ?_
    rintro e w3 hP
    rcases hP with ⟨hnm, v3, rfl, ho, hb3⟩ | ⟨hnm, rfl, hb3⟩
    · replace hx := hx.below hb3
      replace hb1 := Lib.hid (bgo hb1.out hb3)
      have hL5 : ((decT b).map (·.2)).length = 5 := by
        have := congrArg List.length hnm
        simpa [names5] using this
      have hdat : ∀ k, ((decT b).map (·.2)).getD k [] = datN b k := fun k => by
        unfold datN
        rw [List.getD_eq_getElem?_getD, List.getD_eq_getElem?_getD, List.getElem?_map]
        cases (decT b)[k]? <;> rfl
      have hsl := ho.sees
      obtain ⟨A3, c3, rfl, -, -⟩ := hsl.mk_
      obtain ⟨b6, o6, rfl, hb6, hcell⟩ := hsl.at_ (by omega)
      obtain ⟨A10, c10, t0, -, -, sd0⟩ := hcell 0 (by omega)
      obtain ⟨A11, c11, t1, -, -, sd1⟩ := hcell 1 (by omega)
      obtain ⟨A12, c12, t2, -, -, sd2⟩ := hcell 2 (by omega)
      obtain ⟨A13, c13, t3, -, -, sd3⟩ := hcell 3 (by omega)
      obtain ⟨A14, c14, t4, -, -, sd4⟩ := hcell 4 (by omega)
      rw [hdat 0] at t0 sd0
      rw [hdat 1] at t1 sd1
      rw [hdat 2] at t2 sd2
      rw [hdat 3] at t3 sd3
      rw [hdat 4] at t4 sd4
      replace t0 : w3.cell? ⟨b6, o6, none⟩ = some (.slice A10 (datN b 0).length c10) := t0
      have hdl := fun k => Nat.le_trans (datN_len b k) hl
      have hdl2 := datN_len b 2
      rw [hL5]
      clear hcell hsl hdat hL5 hpt
      replace hnm := Lib.hid hnm
      by_cases m0 : (datN b 0).length = 4
      · by_cases m1 : (datN b 1).length = 4
        · by_cases m2 : (datN b 2).length % 32 = 0
          · have i0 : ((datN b 0).length : Int) = 4 := by omega
            have i1 : ((datN b 1).length : Int) = 4 := by omega
            have i2 : ((datN b 2).length : Int) % 32 = 0 := by omega
            have hgN : (datN b 2).length = 32 * ((datN b 2).length / 32) := by omega
            have hc12 : (datN b 2).length ≤ c12 := by
              obtain ⟨A', c', e, h9, -⟩ := sd2.mk_
              cases e
              exact h9
            have hb48 : b.length ≤ 2048 := by
              by_cases h9 : 2048 < b.length
              · have := dec_long b h9
                rw [E0.out] at this
                omega
              · omega
            have hcol : Hid (∀ (n0 n1 : Nat) (W : World), CollAt w3 W (.slice A12 (datN b 2).length c12) n0 n1 → Calls Tryz.prog 89 #[.func (.func 123) #[] #[.pointer (some ⟨n0, 0, none⟩), .pointer (some ⟨n1, 0, none⟩)]] W (CollP w3 W (cutL 32 ((datN b 2).length / 32) (datN b 2)))) := fun n0 n1 W h => by
              obtain ⟨h1, h2, h3, h4, h5⟩ := h
              refine (collect_after A12 c12 (datN b 2) ((datN b 2).length / 32) w3.heap.size w3 sd2 (Nat.le_refl _) hgN (by omega) hc12 W n0 n1 h1 h2 h3 h4 h5).mono ?_
              rintro e w5 ⟨pa, rfl, q1, q2⟩
              obtain ⟨A5, c5, rfl⟩ := q1.shape
              exact ⟨A5, c5, rfl, q1, bgo h1 q2, q2⟩
            have hA := hcol.out _ _ _ (coll_a w3 (.slice A12 (datN b 2).length c12) (.cells #[.int .i64 0, .int .i64 0, .slice none 0 0, .slice none 0 0, .slice none 0 0, .slice none 0 0, .int .i64 0, .int .i64 0] 106))
            have hBB := hcol.out _ _ _ (coll_b w3 (.slice A12 (datN b 2).length c12) (.cells #[.int .i64 0, .int .i64 0, .slice none 0 0, .slice none 0 0, .slice none 0 0, .slice none 0 0, .int .i64 0, .int .i64 0] 106))
            have hC := hcol.out _ _ _ (coll_c w3 (.slice A12 (datN b 2).length c12))
            replace hA := Lib.hid hA
            replace hBB := Lib.hid hBB
            replace hC := Lib.hid hC
            clear hcol
            have hck : Hid (∀ W, Calls Tryz.prog 90 #[.slice A12 (datN b 2).length c12, .int .i64 32] W fun e w' => e = .returned (.func (.func 123) #[] #[.pointer (some ⟨W.heap.size, 0, none⟩), .pointer (some ⟨W.heap.size + 1, 0, none⟩)]) ∧ w' = (W.alloc (.cells #[.slice A12 (datN b 2).length c12] 23)).alloc (.cells #[.int .i64 32] 3)) := fun W => chunk_any A12 (datN b 2).length c12 32 (by omega) W
            have hga1 := Lib.hid (get_any _ _ (datN b 0) w3.drew (sd0.below (bdrew w3)))
            have hgb1 := Lib.hid (get_any _ _ (datN b 1) w3.drew (sd1.below (bdrew w3)))
            have hga2 := Lib.hid (get_any _ _ (datN b 0) (w3.alloc (.cells #[.int .i64 0, .int .i64 0, .slice none 0 0, .slice none 0 0, .slice none 0 0, .slice none 0 0, .int .i64 0, .int .i64 0] 106)).drew (sd0.below (bgo (balloc w3 _) (bdrew _))))
            have hgb2 := Lib.hid (get_any _ _ (datN b 1) (w3.alloc (.cells #[.int .i64 0, .int .i64 0, .slice none 0 0, .slice none 0 0, .slice none 0 0, .slice none 0 0, .int .i64 0, .int .i64 0] 106)).drew (sd1.below (bgo (balloc w3 _) (bdrew _))))
            have n0 := getB_lt4 (datN b 0) m0
            have n1 := getB_lt4 (datN b 1) m1
            have iw0 : IntKind.i64.wrap (getB (datN b 0) : Int) = (getB (datN b 0) : Int) := by rw [IntKind.wrap_i64]; omega
            have iw1 : IntKind.i64.wrap (getB (datN b 1) : Int) = (getB (datN b 1) : Int) := by rw [IntKind.wrap_i64]; omega
            have K : Hid (∀ W' : World, Below w3.heap.size w3 W' → W'.cell? ⟨b6, o6, none⟩ = some (.slice A10 (datN b 0).length c10) ∧ W'.cell? ⟨b6, o6 + 1, none⟩ = some (.slice A11 (datN b 1).length c11) ∧ W'.cell? ⟨b6, o6 + 2, none⟩ = some (.slice A12 (datN b 2).length c12) ∧ W'.cell? ⟨b6, o6 + 4, none⟩ = some (.slice A14 (datN b 4).length c14)) := fun W' hW' =>
              ⟨(hW'.cell (p := ⟨b6, o6, none⟩) hb6).trans t0, (hW'.cell (p := ⟨b6, o6 + 1, none⟩) hb6).trans t1, (hW'.cell (p := ⟨b6, o6 + 2, none⟩) hb6).trans t2, (hW'.cell (p := ⟨b6, o6 + 4, none⟩) hb6).trans t4⟩
            have hdd : ∀ k, Hid ((datN b k).length ≤ 1048576) := hdl
            replace m0 := Lib.hid m0
            replace m1 := Lib.hid m1
            replace m2 := Lib.hid m2
            replace hgN := Lib.hid hgN
            replace hpo := Lib.hid hpo
            replace hx := Lib.hid hx
            clear hdl hdl2 hb3
            generalize hq0 : datN b 0 = d0 at *
            generalize hq1 : datN b 1 = d1 at *
            generalize hq2 : datN b 2 = d2 at *
            generalize hq3 : datN b 3 = d3 at *
            generalize hq4 : datN b 4 = d4 at *
            generalize hix : getB d0 = ix at *
            generalize hnx : getB d1 = nx at *
            replace hix := Lib.hid hix
            replace hnx := Lib.hid hnx
            generalize hls : cutL 32 (d2.length / 32) d2 = ls at *
            replace hls := Lib.hid hls
            go_wp2_with fail
            have hle2 : w3.heap.size ≤ w3.heap.size + 1 + 1 := by omega
            go_cut [8] (fun v W => R7 w3 (ix : Int) (nx : Int) (.slice A14 d4.length c14) ls v W)
            case first =>
              go_region_held3 (fun W' : World => W'.cell? ⟨b6, o6, none⟩ = some (.slice A10 d0.length c10) ∧ W'.cell? ⟨b6, o6 + 1, none⟩ = some (.slice A11 d1.length c11) ∧ W'.cell? ⟨b6, o6 + 2, none⟩ = some (.slice A12 d2.length c12) ∧ W'.cell? ⟨b6, o6 + 4, none⟩ = some (.slice A14 d4.length c14))
                (first | (with_reducible exact K.out _ hbw5) | (with_reducible exact K.out _ (below_set8 hbw5 (Nat.le_refl _) _ _ _ _ _ _ _ _)) | (with_reducible exact K.out _ (below_set8 hbw5 hle2 _ _ _ _ _ _ _ _)) | exact K.out _ (by (repeat (first | exact Below.refl _ _ | (refine bgo ?_ (balloc _ _)) | (refine bgo ?_ (bdrew _)) | (refine bgo ?_ (by assumption))))) | (go_keep; done))
                (first
                  | (go_at_call 89; (with_reducible refine hA.out.mono ?_); rintro e w5 ⟨A5, c5, rfl, h5, hbw5, hq5⟩
                     have hbz := ansZ_a w3 _ _ w5 hq5
                     obtain ⟨⟨e0, e1, e2, e3, e4, e5, e6, e7⟩, j0, j1, j2, j3, j4, j5, j6, j7⟩ := ansZ_cells hbz
                     replace hbz := Lib.hid hbz
                     replace h5 := Lib.hid h5
                     clear hq5)
                  | (go_at_call 89; (with_reducible refine hBB.out.mono ?_); rintro e w5 ⟨A5, c5, rfl, h5, hbw5, hq5⟩
                     have hbz := ansZ_b w3 _ _ w5 hq5
                     obtain ⟨⟨e0, e1, e2, e3, e4, e5, e6, e7⟩, j0, j1, j2, j3, j4, j5, j6, j7⟩ := ansZ_cells hbz
                     replace hbz := Lib.hid hbz
                     replace h5 := Lib.hid h5
                     clear hq5)
                  | (go_at_call 89; (with_reducible refine hC.out.mono ?_); rintro e w5 ⟨A5, c5, rfl, h5, hbw5, hq5⟩
                     replace h5 := Lib.hid h5
                     clear hq5)
                  | (go_at_call 90; (with_reducible refine (hck.out _).mono ?_); rintro e w4 ⟨rfl, rfl⟩)
                  | (go_at_call 85; (with_reducible refine hga1.out.mono ?_); rintro e w' ⟨rfl, rfl⟩)
                  | (go_at_call 85; (with_reducible refine hgb1.out.mono ?_); rintro e w' ⟨rfl, rfl⟩)
                  | (go_at_call 85; (with_reducible refine hga2.out.mono ?_); rintro e w' ⟨rfl, rfl⟩)
                  | (go_at_call 85; (with_reducible refine hgb2.out.mono ?_); rintro e w' ⟨rfl, rfl⟩))
              all_goals
                go_wp2_with fail
                go_meet
                first
                  | ((with_reducible refine r7_new w3 w5 _ _ _ _ _ _ _ _ _ h5.out ?_ hbw5); show _ ≤ ((w3.alloc _).alloc _).heap.size; simp only [World.size_alloc]; omega)
                  | ((with_reducible refine r7_set w3 w5 _ _ _ _ _ _ _ _ _ _ hbz.out h5.out ?_ (Nat.le_refl _) hbw5); show _ < (((w3.alloc _).alloc _).alloc _).heap.size; simp only [World.size_alloc]; omega)
                  | ((with_reducible refine r7_set w3 w5 _ _ _ _ _ _ _ _ _ _ hbz.out h5.out ?_ hle2 hbw5); show _ < (((w3.alloc _).alloc _).alloc _).heap.size; simp only [World.size_alloc]; omega)
            case rest =>
              obtain ⟨g, A5, c5, rfl, hg3, hans, hpa, hpk, hb7⟩ := hcut
              obtain ⟨W7, rfl⟩ : ∃ W : World, W = wc := ⟨_, rfl⟩
              have hg2l : g2 < w3.heap.size := hx.out.lt
              have hx7 := hx.out.below hb7
              replace hb1 := Lib.hid (bgo hb1.out hb7)
              have t3' : W7.cell? ⟨b6, o6 + 3, none⟩ = some (.slice A13 d3.length c13) := (hb7.cell (p := ⟨b6, o6 + 3, none⟩) hb6).trans t3
              have hd3l : d3.length ≤ 4096 := by have := datN_len b 3; rw [hq3] at this; omega
              have hct := Lib.hid (unpad_both' (cut_any w3.heap.size _ d3 W7 (sd3.below hb7) hb7.size hd3l))
              have hpt7 := (sd4.below hb7).more hb7.size
              have hd4l := (hdd 4).out
              rw [hq4] at hd4l
              have hpo2 : Hid (parseOk b = ((unpadG d3).isSome && contOk d4)) := by
                show _ = _
                rw [hpo.out]
                simp [hnm.out, hq0, hq1, hq2, hq3, hq4, m0.out, m1.out, m2.out]
              replace hpa := Lib.hid hpa
              replace hpk := Lib.hid hpk
              replace hx7 := Lib.hid hx7
              clear hA hBB hC hck hga1 hgb1 hga2 hgb2 iw0 iw1 K t0 t1 t2 t3 t4 sd0 sd1 sd2 sd3 sd4 i0 i1 i2 hx hpo hb7 hc12
              clear m0 m1 m2 hgN
              clear n0 n1
              have hq3' := Lib.hid hq3
              have hq4' := Lib.hid hq4
              have hq0' := Lib.hid hq0
              have hq1' := Lib.hid hq1
              have hq2' := Lib.hid hq2
              clear hq0 hq1 hq2 hq3 hq4
              unfold AnsAt at hans
              go_wp2_with fail
              refine hct.out.mono ?_
              rintro e w8 ⟨Au, nu, cu, rfl, hb8, hus⟩
              clear hct t3'
              have hans8 := hans.below hb8
              have hpt8 := (hpt7.below hb8).more hb8.size
              have hx8 := hx7.out.below hb8
              have hpa8 : SeesL w8 w8.heap.size (.slice A5 ls.length c5) ls := seesL_of hpa.out (Nat.le_refl _) hb8
              have hb18 := bgo hb1.out hb8
              have hg8 : g < w8.heap.size := hans8.lt
              have e3 := hans8.cell 3
              simp only [List.getElem?_cons_zero, List.getElem?_cons_succ] at e3
              have j3 := hans8.frozen 3
              have hno8 := noB8 (ix : Int) (nx : Int) (.slice A5 ls.length c5) (.slice none 0 0) (.slice A14 d4.length c14) (.slice none 0 0) (NoB.s _ _ _) (NoB.s _ _ _) (NoB.s _ _ _) (NoB.s _ _ _) 0 0
              have hgr9 := setCell_grown w8 g 3 (.slice Au nu cu)
              have hpt9 := hpt8.over (Nat.le_refl _) hans8 hno8 hgr9
              have hpa9 := hpa8.over (Nat.le_refl _) (fun k hk => (hpk.out k hk).2) hans8 hno8 hgr9
              have hus9 := fun s hs => (hus s hs).over (Nat.le_refl _) hans8 hno8 hgr9
              have hx9 := hx8.apart hgr9 (by omega)
              have hans9 := hans8.set 3 (.slice Au nu cu)
              simp only [List.set_cons_zero, List.set_cons_succ] at hans9
              have hs9 : (w8.setCell ⟨g, 3, none⟩ (.slice Au nu cu)).heap.size = w8.heap.size := by simp [World.setCell]
              have hb19 : Below w.heap.size w (w8.setCell ⟨g, 3, none⟩ (.slice Au nu cu)) := hb18.setCell (p := ⟨g, 3, none⟩) (by have := hgw.out; show _ ≤ g; omega) _
              rw [← hs9] at hpt9 hpa9 hus9
              replace hpt9 := Lib.hid hpt9
              replace hpa9 := Lib.hid hpa9
              replace hus9 := Lib.hid hus9
              replace hx9 := Lib.hid hx9
              replace hans9 := Lib.hid hans9
              replace hb19 := Lib.hid hb19
              clear hans hans8 hpt7 hpt8 hx7 hx8 hpa hpa8 hus hno8 hb18 hb8 hgr9 hb1 hs9
              dsimp only
              go_upto_region 9 with (fail)
              clear e3 j3
              generalize w8.setCell ⟨g, 3, none⟩ (.slice Au nu cu) = W9 at *
              rcases hU : unpadG d3 with _ | sg
              · have hpc : Hid (parseC b = 3) := by show _ = _; rw [parseC, if_pos E0.out, if_neg (by rw [hpo2.out, hU]; simp)]
                have hx10 := hx9.out
                have hbw10 := hb19
                obtain ⟨w10, rfl⟩ : ∃ w10 : World, w10 = W9 := ⟨_, rfl⟩
                simp only [Option.isSome_none]
                replace hU := Lib.hid hU
                have y0 := hx10.cell 0
                have y1 := hx10.cell 1
                have y2 := hx10.cell 2
                have y3 := hx10.cell 3
                have y4 := hx10.cell 4
                have y5 := hx10.cell 5
                have y6 := hx10.cell 6
                have y7 := hx10.cell 7
                simp only [List.getElem?_cons_zero, List.getElem?_cons_succ] at y0 y1 y2 y3 y4 y5 y6 y7
                have f0 := hx10.frozen 0
                have f1 := hx10.frozen 1
                have f2 := hx10.frozen 2
                have f3 := hx10.frozen 3
                have f4 := hx10.frozen 4
                have f5 := hx10.frozen 5
                have f6 := hx10.frozen 6
                have f7 := hx10.frozen 7
                go_wp2_with fail
                have kz := Lib.hid (box_set8 hx10 (.int .i64 0) (.int .i64 0) (.slice none 0 0) (.slice none 0 0) (.slice none 0 0) (.slice none 0 0) (.int .i64 0) (.int .i64 0))
                have kb := Lib.hid (below_set8 hbw10.out hgw.out (.int .i64 0) (.int .i64 0) (.slice none 0 0) (.slice none 0 0) (.slice none 0 0) (.slice none 0 0) (.int .i64 0) (.int .i64 0))
                clear y0 y1 y2 y3 y4 y5 y6 y7 f0 f1 f2 f3 f4 f5 f6 f7
                generalize (((((((w10.setCell ⟨g2, 0, none⟩ (.int .i64 0)).setCell ⟨g2, 1, none⟩ (.int .i64 0)).setCell ⟨g2, 2, none⟩ (.slice none 0 0)).setCell ⟨g2, 3, none⟩ (.slice none 0 0)).setCell ⟨g2, 4, none⟩ (.slice none 0 0)).setCell ⟨g2, 5, none⟩ (.slice none 0 0)).setCell ⟨g2, 6, none⟩ (.int .i64 0)).setCell ⟨g2, 7, none⟩ (.int .i64 0) = W9 at *
                have z0 : W9.cell? ⟨g2, 0, none⟩ = some (.int .i64 0) := kz.out.cell 0
                have z1 : W9.cell? ⟨g2, 1, none⟩ = some (.int .i64 0) := kz.out.cell 1
                have z2 : W9.cell? ⟨g2, 2, none⟩ = some (.slice none 0 0) := kz.out.cell 2
                have z3 : W9.cell? ⟨g2, 3, none⟩ = some (.slice none 0 0) := kz.out.cell 3
                have z4 : W9.cell? ⟨g2, 4, none⟩ = some (.slice none 0 0) := kz.out.cell 4
                have z5 : W9.cell? ⟨g2, 5, none⟩ = some (.slice none 0 0) := kz.out.cell 5
                have z6 : W9.cell? ⟨g2, 6, none⟩ = some (.int .i64 0) := kz.out.cell 6
                have z7 : W9.cell? ⟨g2, 7, none⟩ = some (.int .i64 0) := kz.out.cell 7
                refine bodyPost_ret (v := .tuple #[zeroA, .int .i64 3]) (by simp [zeroA, results, Tryz.results60, go_sem, z0, z1, z2, z3, z4, z5, z6, z7]) rfl ?_
                exact .inl ⟨by rw [hpc.out]; simp, by rw [hpc.out], kb.out⟩
              · have hssg := hus9.out sg hU
                have hcn := content_any d4 g (ix : Int) (nx : Int) (.slice A5 ls.length c5) (.slice Au nu cu) (.slice A14 d4.length c14) (.slice none 0 0) 0 0 W9 hans9.out hpt9.out hd4l (NoB.s _ _ _) (NoB.s _ _ _) (NoB.s _ _ _) rfl rfl rfl
                have hpo3 : Hid (parseOk b = contOk d4) := by show _ = _; rw [hpo2.out, hU]; simp
                replace hcn := Lib.hid hcn
                replace hU := Lib.hid hU
                replace hssg := Lib.hid hssg
                simp only [Option.isSome_some]
                go_wp2_with fail
                refine hcn.out.mono ?_
                rintro e w10 ⟨rfl, hg10, hc10⟩
                clear hcn
                have hno9 := noB8 (ix : Int) (nx : Int) (.slice A5 ls.length c5) (.slice Au nu cu) (.slice A14 d4.length c14) (.slice none 0 0) (NoB.s _ _ _) (NoB.s _ _ _) (NoB.s _ _ _) (NoB.s _ _ _) 0 0
                have hx10 := hx9.out.apart hg10 (by omega)
                have hb310 : Below w3.heap.size W9 w10 := below_over hg10 hg3 (by have := hans9.out.lt; omega)
                have hbw10 := Lib.hid (hb19.out.trans (hb310.mono (by have := hgw.out; have := hg2.out; omega)))
                have hpt10 := (hpt9.out.over (Nat.le_refl _) hans9.out hno9 hg10).more hg10.size
                have hsi10 := (hssg.out.over (Nat.le_refl _) hans9.out hno9 hg10).more hg10.size
                have hpa10 := SeesL.more (hpa9.out.over (Nat.le_refl _) (fun k hk => (hpk.out k hk).2) hans9.out hno9 hg10) hg10.size
                clear hpt9 hssg hpa9 hans9 hno9 hx9 hb19 hus9 hb310 hg10
                dsimp only
                cases hok : contOk d4 with
                | false =>
                  have hpc : Hid (parseC b = 3) := by show _ = _; rw [parseC, if_pos E0.out, if_neg (by rw [hpo3.out, hok]; simp)]
                  replace hok := Lib.hid hok
                  clear hc10 hpt10 hsi10 hpa10
                  have y0 := hx10.cell 0
                  have y1 := hx10.cell 1
                  have y2 := hx10.cell 2
                  have y3 := hx10.cell 3
                  have y4 := hx10.cell 4
                  have y5 := hx10.cell 5
                  have y6 := hx10.cell 6
                  have y7 := hx10.cell 7
                  simp only [List.getElem?_cons_zero, List.getElem?_cons_succ] at y0 y1 y2 y3 y4 y5 y6 y7
                  have f0 := hx10.frozen 0
                  have f1 := hx10.frozen 1
                  have f2 := hx10.frozen 2
                  have f3 := hx10.frozen 3
                  have f4 := hx10.frozen 4
                  have f5 := hx10.frozen 5
                  have f6 := hx10.frozen 6
                  have f7 := hx10.frozen 7
                  go_wp2_with fail
                  have kz := Lib.hid (box_set8 hx10 (.int .i64 0) (.int .i64 0) (.slice none 0 0) (.slice none 0 0) (.slice none 0 0) (.slice none 0 0) (.int .i64 0) (.int .i64 0))
                  have kb := Lib.hid (below_set8 hbw10.out hgw.out (.int .i64 0) (.int .i64 0) (.slice none 0 0) (.slice none 0 0) (.slice none 0 0) (.slice none 0 0) (.int .i64 0) (.int .i64 0))
                  clear y0 y1 y2 y3 y4 y5 y6 y7 f0 f1 f2 f3 f4 f5 f6 f7
                  generalize (((((((w10.setCell ⟨g2, 0, none⟩ (.int .i64 0)).setCell ⟨g2, 1, none⟩ (.int .i64 0)).setCell ⟨g2, 2, none⟩ (.slice none 0 0)).setCell ⟨g2, 3, none⟩ (.slice none 0 0)).setCell ⟨g2, 4, none⟩ (.slice none 0 0)).setCell ⟨g2, 5, none⟩ (.slice none 0 0)).setCell ⟨g2, 6, none⟩ (.int .i64 0)).setCell ⟨g2, 7, none⟩ (.int .i64 0) = W9 at *
                  have z0 : W9.cell? ⟨g2, 0, none⟩ = some (.int .i64 0) := kz.out.cell 0
                  have z1 : W9.cell? ⟨g2, 1, none⟩ = some (.int .i64 0) := kz.out.cell 1
                  have z2 : W9.cell? ⟨g2, 2, none⟩ = some (.slice none 0 0) := kz.out.cell 2
                  have z3 : W9.cell? ⟨g2, 3, none⟩ = some (.slice none 0 0) := kz.out.cell 3
                  have z4 : W9.cell? ⟨g2, 4, none⟩ = some (.slice none 0 0) := kz.out.cell 4
                  have z5 : W9.cell? ⟨g2, 5, none⟩ = some (.slice none 0 0) := kz.out.cell 5
                  have z6 : W9.cell? ⟨g2, 6, none⟩ = some (.int .i64 0) := kz.out.cell 6
                  have z7 : W9.cell? ⟨g2, 7, none⟩ = some (.int .i64 0) := kz.out.cell 7
                  refine bodyPost_ret (v := .tuple #[zeroA, .int .i64 3]) (by simp [zeroA, results, Tryz.results60, go_sem, z0, z1, z2, z3, z4, z5, z6, z7]) rfl ?_
                  exact .inl ⟨by rw [hpc.out]; simp, by rw [hpc.out], kb.out⟩
                | true =>
                  have hpc : Hid (parseC b = 0) := by show _ = _; rw [parseC, if_pos E0.out, if_pos (by rw [hpo3.out, hok])]
                  obtain ⟨ro, hans10, hro10⟩ := hc10 hok
                  unfold AnsAt at hans10
                  obtain ⟨A15, c15, rfl, -, -⟩ := hro10.mk_
                  replace hok := Lib.hid hok
                  clear hc10
                  have x0 := hans10.cell 0
                  have x1 := hans10.cell 1
                  have x2 := hans10.cell 2
                  have x3 := hans10.cell 3
                  have x4 := hans10.cell 4
                  have x5 := hans10.cell 5
                  have x6 := hans10.cell 6
                  have x7 := hans10.cell 7
                  simp only [List.getElem?_cons_zero, List.getElem?_cons_succ] at x0 x1 x2 x3 x4 x5 x6 x7
                  replace hpk : ∀ k, (Value.slice A5 ls.length c5).ownBlock = some k → w3.heap.size ≤ k := fun k hk => (hpk.out k hk).1
                  replace hpk := Lib.hid hpk
                  have hlo : Hid (unLo (datN d4 1) = unLo (datN d4 1)) := rfl
                  generalize hro : datN d4 0 = r0 at *
                  generalize hlo1 : unLo (datN d4 1) = lo at *
                  generalize hhi1 : unHi (datN d4 1) = hi at *
                  replace hro := Lib.hid hro
                  replace hlo1 := Lib.hid hlo1
                  replace hhi1 := Lib.hid hhi1
                  clear hlo hans10
                  replace hpa10 := Lib.hid hpa10
                  replace hpt10 := Lib.hid hpt10
                  replace hsi10 := Lib.hid hsi10
                  replace hro10 := Lib.hid hro10
                  have y0 := hx10.cell 0
                  have y1 := hx10.cell 1
                  have y2 := hx10.cell 2
                  have y3 := hx10.cell 3
                  have y4 := hx10.cell 4
                  have y5 := hx10.cell 5
                  have y6 := hx10.cell 6
                  have y7 := hx10.cell 7
                  simp only [List.getElem?_cons_zero, List.getElem?_cons_succ] at y0 y1 y2 y3 y4 y5 y6 y7
                  have f0 := hx10.frozen 0
                  have f1 := hx10.frozen 1
                  have f2 := hx10.frozen 2
                  have f3 := hx10.frozen 3
                  have f4 := hx10.frozen 4
                  have f5 := hx10.frozen 5
                  have f6 := hx10.frozen 6
                  have f7 := hx10.frozen 7
                  go_wp2_with fail
                  have kz := Lib.hid (box_set8 hx10 (.int .i64 (ix : Int)) (.int .i64 (nx : Int)) (.slice A5 ls.length c5) (.slice Au nu cu) (.slice A14 d4.length c14) (.slice A15 r0.length c15) (.int .i64 lo) (.int .i64 hi))
                  have kb := Lib.hid (below_set8 hbw10.out hgw.out (.int .i64 (ix : Int)) (.int .i64 (nx : Int)) (.slice A5 ls.length c5) (.slice Au nu cu) (.slice A14 d4.length c14) (.slice A15 r0.length c15) (.int .i64 lo) (.int .i64 hi))
                  have kpa := Lib.hid (SeesL.over hpa10.out (Nat.le_refl _) (fun k hk => by have := hpk.out k hk; have := hg2l; omega) hx10 (noB8 _ _ _ _ _ _ (NoB.s _ _ _) (NoB.s _ _ _) (NoB.s _ _ _) (NoB.s _ _ _) _ _) (grown_set8 w10 g2 (.int .i64 (ix : Int)) (.int .i64 (nx : Int)) (.slice A5 ls.length c5) (.slice Au nu cu) (.slice A14 d4.length c14) (.slice A15 r0.length c15) (.int .i64 lo) (.int .i64 hi)))
                  have ksi := Lib.hid (SeesB.over hsi10.out (Nat.le_refl _) hx10 (noB8 _ _ _ _ _ _ (NoB.s _ _ _) (NoB.s _ _ _) (NoB.s _ _ _) (NoB.s _ _ _) _ _) (grown_set8 w10 g2 (.int .i64 (ix : Int)) (.int .i64 (nx : Int)) (.slice A5 ls.length c5) (.slice Au nu cu) (.slice A14 d4.length c14) (.slice A15 r0.length c15) (.int .i64 lo) (.int .i64 hi)))
                  have kpt := Lib.hid (SeesB.over hpt10.out (Nat.le_refl _) hx10 (noB8 _ _ _ _ _ _ (NoB.s _ _ _) (NoB.s _ _ _) (NoB.s _ _ _) (NoB.s _ _ _) _ _) (grown_set8 w10 g2 (.int .i64 (ix : Int)) (.int .i64 (nx : Int)) (.slice A5 ls.length c5) (.slice Au nu cu) (.slice A14 d4.length c14) (.slice A15 r0.length c15) (.int .i64 lo) (.int .i64 hi)))
                  have kro := Lib.hid (SeesB.over hro10.out (Nat.le_refl _) hx10 (noB8 _ _ _ _ _ _ (NoB.s _ _ _) (NoB.s _ _ _) (NoB.s _ _ _) (NoB.s _ _ _) _ _) (grown_set8 w10 g2 (.int .i64 (ix : Int)) (.int .i64 (nx : Int)) (.slice A5 ls.length c5) (.slice Au nu cu) (.slice A14 d4.length c14) (.slice A15 r0.length c15) (.int .i64 lo) (.int .i64 hi)))
                  have hsz := Lib.hid (size_set8 w10 g2 (.int .i64 (ix : Int)) (.int .i64 (nx : Int)) (.slice A5 ls.length c5) (.slice Au nu cu) (.slice A14 d4.length c14) (.slice A15 r0.length c15) (.int .i64 lo) (.int .i64 hi))
                  clear x0 x1 x2 x3 x4 x5 x6 x7 y0 y1 y2 y3 y4 y5 y6 y7 f0 f1 f2 f3 f4 f5 f6 f7
                  generalize (((((((w10.setCell ⟨g2, 0, none⟩ (.int .i64 (ix : Int))).setCell ⟨g2, 1, none⟩ (.int .i64 (nx : Int))).setCell ⟨g2, 2, none⟩ (.slice A5 ls.length c5)).setCell ⟨g2, 3, none⟩ (.slice Au nu cu)).setCell ⟨g2, 4, none⟩ (.slice A14 d4.length c14)).setCell ⟨g2, 5, none⟩ (.slice A15 r0.length c15)).setCell ⟨g2, 6, none⟩ (.int .i64 lo)).setCell ⟨g2, 7, none⟩ (.int .i64 hi) = W9 at *
                  have z0 : W9.cell? ⟨g2, 0, none⟩ = some (.int .i64 (ix : Int)) := kz.out.cell 0
                  have z1 : W9.cell? ⟨g2, 1, none⟩ = some (.int .i64 (nx : Int)) := kz.out.cell 1
                  have z2 : W9.cell? ⟨g2, 2, none⟩ = some (.slice A5 ls.length c5) := kz.out.cell 2
                  have z3 : W9.cell? ⟨g2, 3, none⟩ = some (.slice Au nu cu) := kz.out.cell 3
                  have z4 : W9.cell? ⟨g2, 4, none⟩ = some (.slice A14 d4.length c14) := kz.out.cell 4
                  have z5 : W9.cell? ⟨g2, 5, none⟩ = some (.slice A15 r0.length c15) := kz.out.cell 5
                  have z6 : W9.cell? ⟨g2, 6, none⟩ = some (.int .i64 lo) := kz.out.cell 6
                  have z7 : W9.cell? ⟨g2, 7, none⟩ = some (.int .i64 hi) := kz.out.cell 7
                  refine bodyPost_ret (v := .tuple #[.agg #[.int .i64 (ix : Int), .int .i64 (nx : Int), .slice A5 ls.length c5, .slice Au nu cu, .slice A14 d4.length c14, .slice A15 r0.length c15, .int .i64 lo, .int .i64 hi], .int .i64 0]) (by simp [zeroA, results, Tryz.results60, go_sem, z0, z1, z2, z3, z4, z5, z6, z7]) rfl ?_
                  refine .inr ⟨hpc.out, .slice A5 ls.length c5, .slice Au nu cu, .slice A14 d4.length c14, .slice A15 r0.length c15, ?_, ?_, ⟨sg, ?_, ?_⟩, ?_, ?_, kb.out⟩
                  · rw [hq4'.out, hq0'.out, hq1'.out, hlo1.out, hhi1.out, hix.out, hnx.out]
                  · rw [hq2'.out, hls.out, hsz.out]; exact kpa.out
                  · rw [hq3'.out]; exact hU.out
                  · rw [hsz.out]; exact ksi.out
                  · rw [hq4'.out, hsz.out]; exact kpt.out
                  · rw [hq4'.out, hro.out, hsz.out]; exact kro.out
          · have i0 : ((datN b 0).length : Int) = 4 := by omega
            have i1 : ((datN b 1).length : Int) = 4 := by omega
            have i2 : ¬ ((datN b 2).length : Int) % 32 = 0 := by omega
            have hpc : Hid (parseC b = 3) := by show _ = _; rw [parseC, if_pos E0.out, if_neg (by rw [hpo.out]; simp [m2])]
            have y0 := hx.cell 0
            have y1 := hx.cell 1
            have y2 := hx.cell 2
            have y3 := hx.cell 3
            have y4 := hx.cell 4
            have y5 := hx.cell 5
            have y6 := hx.cell 6
            have y7 := hx.cell 7
            simp only [List.getElem?_cons_zero, List.getElem?_cons_succ] at y0 y1 y2 y3 y4 y5 y6 y7
            have f0 := hx.frozen 0
            have f1 := hx.frozen 1
            have f2 := hx.frozen 2
            have f3 := hx.frozen 3
            have f4 := hx.frozen 4
            have f5 := hx.frozen 5
            have f6 := hx.frozen 6
            have f7 := hx.frozen 7
            go_wp2_with fail
            have kz := Lib.hid (box_set8 hx (.int .i64 0) (.int .i64 0) (.slice none 0 0) (.slice none 0 0) (.slice none 0 0) (.slice none 0 0) (.int .i64 0) (.int .i64 0))
            have kb := Lib.hid (below_set8 hb1.out hgw.out (.int .i64 0) (.int .i64 0) (.slice none 0 0) (.slice none 0 0) (.slice none 0 0) (.slice none 0 0) (.int .i64 0) (.int .i64 0))
            clear y0 y1 y2 y3 y4 y5 y6 y7 f0 f1 f2 f3 f4 f5 f6 f7
            generalize (((((((w3.setCell ⟨g2, 0, none⟩ (.int .i64 0)).setCell ⟨g2, 1, none⟩ (.int .i64 0)).setCell ⟨g2, 2, none⟩ (.slice none 0 0)).setCell ⟨g2, 3, none⟩ (.slice none 0 0)).setCell ⟨g2, 4, none⟩ (.slice none 0 0)).setCell ⟨g2, 5, none⟩ (.slice none 0 0)).setCell ⟨g2, 6, none⟩ (.int .i64 0)).setCell ⟨g2, 7, none⟩ (.int .i64 0) = W9 at *
            have z0 : W9.cell? ⟨g2, 0, none⟩ = some (.int .i64 0) := kz.out.cell 0
            have z1 : W9.cell? ⟨g2, 1, none⟩ = some (.int .i64 0) := kz.out.cell 1
            have z2 : W9.cell? ⟨g2, 2, none⟩ = some (.slice none 0 0) := kz.out.cell 2
            have z3 : W9.cell? ⟨g2, 3, none⟩ = some (.slice none 0 0) := kz.out.cell 3
            have z4 : W9.cell? ⟨g2, 4, none⟩ = some (.slice none 0 0) := kz.out.cell 4
            have z5 : W9.cell? ⟨g2, 5, none⟩ = some (.slice none 0 0) := kz.out.cell 5
            have z6 : W9.cell? ⟨g2, 6, none⟩ = some (.int .i64 0) := kz.out.cell 6
            have z7 : W9.cell? ⟨g2, 7, none⟩ = some (.int .i64 0) := kz.out.cell 7
            refine bodyPost_ret (v := .tuple #[zeroA, .int .i64 3]) (by simp [zeroA, results, Tryz.results60, go_sem, z0, z1, z2, z3, z4, z5, z6, z7]) rfl ?_
            exact .inl ⟨by rw [hpc.out]; simp, by rw [hpc.out], kb.out⟩
        · have i0 : ((datN b 0).length : Int) = 4 := by omega
          have i1 : ¬ ((datN b 1).length : Int) = 4 := by omega
          have hpc : Hid (parseC b = 3) := by show _ = _; rw [parseC, if_pos E0.out, if_neg (by rw [hpo.out]; simp [m1])]
          have y0 := hx.cell 0
          have y1 := hx.cell 1
          have y2 := hx.cell 2
          have y3 := hx.cell 3
          have y4 := hx.cell 4
          have y5 := hx.cell 5
          have y6 := hx.cell 6
          have y7 := hx.cell 7
          simp only [List.getElem?_cons_zero, List.getElem?_cons_succ] at y0 y1 y2 y3 y4 y5 y6 y7
          have f0 := hx.frozen 0
          have f1 := hx.frozen 1
          have f2 := hx.frozen 2
          have f3 := hx.frozen 3
          have f4 := hx.frozen 4
          have f5 := hx.frozen 5
          have f6 := hx.frozen 6
          have f7 := hx.frozen 7
          go_wp2_with fail
          have kz := Lib.hid (box_set8 hx (.int .i64 0) (.int .i64 0) (.slice none 0 0) (.slice none 0 0) (.slice none 0 0) (.slice none 0 0) (.int .i64 0) (.int .i64 0))
          have kb := Lib.hid (below_set8 hb1.out hgw.out (.int .i64 0) (.int .i64 0) (.slice none 0 0) (.slice none 0 0) (.slice none 0 0) (.slice none 0 0) (.int .i64 0) (.int .i64 0))
          clear y0 y1 y2 y3 y4 y5 y6 y7 f0 f1 f2 f3 f4 f5 f6 f7
          generalize (((((((w3.setCell ⟨g2, 0, none⟩ (.int .i64 0)).setCell ⟨g2, 1, none⟩ (.int .i64 0)).setCell ⟨g2, 2, none⟩ (.slice none 0 0)).setCell ⟨g2, 3, none⟩ (.slice none 0 0)).setCell ⟨g2, 4, none⟩ (.slice none 0 0)).setCell ⟨g2, 5, none⟩ (.slice none 0 0)).setCell ⟨g2, 6, none⟩ (.int .i64 0)).setCell ⟨g2, 7, none⟩ (.int .i64 0) = W9 at *
          have z0 : W9.cell? ⟨g2, 0, none⟩ = some (.int .i64 0) := kz.out.cell 0
          have z1 : W9.cell? ⟨g2, 1, none⟩ = some (.int .i64 0) := kz.out.cell 1
          have z2 : W9.cell? ⟨g2, 2, none⟩ = some (.slice none 0 0) := kz.out.cell 2
          have z3 : W9.cell? ⟨g2, 3, none⟩ = some (.slice none 0 0) := kz.out.cell 3
          have z4 : W9.cell? ⟨g2, 4, none⟩ = some (.slice none 0 0) := kz.out.cell 4
          have z5 : W9.cell? ⟨g2, 5, none⟩ = some (.slice none 0 0) := kz.out.cell 5
          have z6 : W9.cell? ⟨g2, 6, none⟩ = some (.int .i64 0) := kz.out.cell 6
          have z7 : W9.cell? ⟨g2, 7, none⟩ = some (.int .i64 0) := kz.out.cell 7
          refine bodyPost_ret (v := .tuple #[zeroA, .int .i64 3]) (by simp [zeroA, results, Tryz.results60, go_sem, z0, z1, z2, z3, z4, z5, z6, z7]) rfl ?_
          exact .inl ⟨by rw [hpc.out]; simp, by rw [hpc.out], kb.out⟩
      · have i0 : ¬ ((datN b 0).length : Int) = 4 := by omega
        have hpc : Hid (parseC b = 3) := by show _ = _; rw [parseC, if_pos E0.out, if_neg (by rw [hpo.out]; simp [m0])]
        have y0 := hx.cell 0
        have y1 := hx.cell 1
        have y2 := hx.cell 2
        have y3 := hx.cell 3
        have y4 := hx.cell 4
        have y5 := hx.cell 5
        have y6 := hx.cell 6
        have y7 := hx.cell 7
        simp only [List.getElem?_cons_zero, List.getElem?_cons_succ] at y0 y1 y2 y3 y4 y5 y6 y7
        have f0 := hx.frozen 0
        have f1 := hx.frozen 1
        have f2 := hx.frozen 2
        have f3 := hx.frozen 3
        have f4 := hx.frozen 4
        have f5 := hx.frozen 5
        have f6 := hx.frozen 6
        have f7 := hx.frozen 7
        go_wp2_with fail
        have kz := Lib.hid (box_set8 hx (.int .i64 0) (.int .i64 0) (.slice none 0 0) (.slice none 0 0) (.slice none 0 0) (.slice none 0 0) (.int .i64 0) (.int .i64 0))
        have kb := Lib.hid (below_set8 hb1.out hgw.out (.int .i64 0) (.int .i64 0) (.slice none 0 0) (.slice none 0 0) (.slice none 0 0) (.slice none 0 0) (.int .i64 0) (.int .i64 0))
        clear y0 y1 y2 y3 y4 y5 y6 y7 f0 f1 f2 f3 f4 f5 f6 f7
        generalize (((((((w3.setCell ⟨g2, 0, none⟩ (.int .i64 0)).setCell ⟨g2, 1, none⟩ (.int .i64 0)).setCell ⟨g2, 2, none⟩ (.slice none 0 0)).setCell ⟨g2, 3, none⟩ (.slice none 0 0)).setCell ⟨g2, 4, none⟩ (.slice none 0 0)).setCell ⟨g2, 5, none⟩ (.slice none 0 0)).setCell ⟨g2, 6, none⟩ (.int .i64 0)).setCell ⟨g2, 7, none⟩ (.int .i64 0) = W9 at *
        have z0 : W9.cell? ⟨g2, 0, none⟩ = some (.int .i64 0) := kz.out.cell 0
        have z1 : W9.cell? ⟨g2, 1, none⟩ = some (.int .i64 0) := kz.out.cell 1
        have z2 : W9.cell? ⟨g2, 2, none⟩ = some (.slice none 0 0) := kz.out.cell 2
        have z3 : W9.cell? ⟨g2, 3, none⟩ = some (.slice none 0 0) := kz.out.cell 3
        have z4 : W9.cell? ⟨g2, 4, none⟩ = some (.slice none 0 0) := kz.out.cell 4
        have z5 : W9.cell? ⟨g2, 5, none⟩ = some (.slice none 0 0) := kz.out.cell 5
        have z6 : W9.cell? ⟨g2, 6, none⟩ = some (.int .i64 0) := kz.out.cell 6
        have z7 : W9.cell? ⟨g2, 7, none⟩ = some (.int .i64 0) := kz.out.cell 7
        refine bodyPost_ret (v := .tuple #[zeroA, .int .i64 3]) (by simp [zeroA, results, Tryz.results60, go_sem, z0, z1, z2, z3, z4, z5, z6, z7]) rfl ?_
        exact .inl ⟨by rw [hpc.out]; simp, by rw [hpc.out], kb.out⟩
    · replace hx := hx.below hb3
      replace hb1 := Lib.hid (bgo hb1.out hb3)
      have hpc : Hid (parseC b = 3) := by show _ = _; rw [parseC, if_pos E0.out, if_neg (by rw [hpo.out]; simp [hnm])]
      replace hnm := Lib.hid hnm
      have y0 := hx.cell 0
      have y1 := hx.cell 1
      have y2 := hx.cell 2
      have y3 := hx.cell 3
      have y4 := hx.cell 4
      have y5 := hx.cell 5
      have y6 := hx.cell 6
      have y7 := hx.cell 7
      simp only [List.getElem?_cons_zero, List.getElem?_cons_succ] at y0 y1 y2 y3 y4 y5 y6 y7
      have f0 := hx.frozen 0
      have f1 := hx.frozen 1
      have f2 := hx.frozen 2
      have f3 := hx.frozen 3
      have f4 := hx.frozen 4
      have f5 := hx.frozen 5
      have f6 := hx.frozen 6
      have f7 := hx.frozen 7
      go_wp2_with fail
      have kz := Lib.hid (box_set8 hx (.int .i64 0) (.int .i64 0) (.slice none 0 0) (.slice none 0 0) (.slice none 0 0) (.slice none 0 0) (.int .i64 0) (.int .i64 0))
      have kb := Lib.hid (below_set8 hb1.out hgw.out (.int .i64 0) (.int .i64 0) (.slice none 0 0) (.slice none 0 0) (.slice none 0 0) (.slice none 0 0) (.int .i64 0) (.int .i64 0))
      clear y0 y1 y2 y3 y4 y5 y6 y7 f0 f1 f2 f3 f4 f5 f6 f7
      generalize (((((((w3.setCell ⟨g2, 0, none⟩ (.int .i64 0)).setCell ⟨g2, 1, none⟩ (.int .i64 0)).setCell ⟨g2, 2, none⟩ (.slice none 0 0)).setCell ⟨g2, 3, none⟩ (.slice none 0 0)).setCell ⟨g2, 4, none⟩ (.slice none 0 0)).setCell ⟨g2, 5, none⟩ (.slice none 0 0)).setCell ⟨g2, 6, none⟩ (.int .i64 0)).setCell ⟨g2, 7, none⟩ (.int .i64 0) = W9 at *
      have z0 : W9.cell? ⟨g2, 0, none⟩ = some (.int .i64 0) := kz.out.cell 0
      have z1 : W9.cell? ⟨g2, 1, none⟩ = some (.int .i64 0) := kz.out.cell 1
      have z2 : W9.cell? ⟨g2, 2, none⟩ = some (.slice none 0 0) := kz.out.cell 2
      have z3 : W9.cell? ⟨g2, 3, none⟩ = some (.slice none 0 0) := kz.out.cell 3
      have z4 : W9.cell? ⟨g2, 4, none⟩ = some (.slice none 0 0) := kz.out.cell 4
      have z5 : W9.cell? ⟨g2, 5, none⟩ = some (.slice none 0 0) := kz.out.cell 5
      have z6 : W9.cell? ⟨g2, 6, none⟩ = some (.int .i64 0) := kz.out.cell 6
      have z7 : W9.cell? ⟨g2, 7, none⟩ = some (.int .i64 0) := kz.out.cell 7
      refine bodyPost_ret (v := .tuple #[zeroA, .int .i64 3]) (by simp [zeroA, results, Tryz.results60, go_sem, z0, z1, z2, z3, z4, z5, z6, z7]) rfl ?_
      exact .inl ⟨by rw [hpc.out]; simp, by rw [hpc.out], kb.out⟩
  · have hpc : Hid (parseC b = decC b) := by show _ = _; rw [parseC, if_neg E0]
    generalize decC b = E at *
    go_wp2_with fail
    have kz := Lib.hid (box_set8 hx (.int .i64 0) (.int .i64 0) (.slice none 0 0) (.slice none 0 0) (.slice none 0 0) (.slice none 0 0) (.int .i64 0) (.int .i64 0))
    have kb := Lib.hid (below_set8 hb1.out hgw.out (.int .i64 0) (.int .i64 0) (.slice none 0 0) (.slice none 0 0) (.slice none 0 0) (.slice none 0 0) (.int .i64 0) (.int .i64 0))
    clear y0 y1 y2 y3 y4 y5 y6 y7 f0 f1 f2 f3 f4 f5 f6 f7
    generalize (((((((w1.setCell ⟨g2, 0, none⟩ (.int .i64 0)).setCell ⟨g2, 1, none⟩ (.int .i64 0)).setCell ⟨g2, 2, none⟩ (.slice none 0 0)).setCell ⟨g2, 3, none⟩ (.slice none 0 0)).setCell ⟨g2, 4, none⟩ (.slice none 0 0)).setCell ⟨g2, 5, none⟩ (.slice none 0 0)).setCell ⟨g2, 6, none⟩ (.int .i64 0)).setCell ⟨g2, 7, none⟩ (.int .i64 0) = W9 at *
    have z0 : W9.cell? ⟨g2, 0, none⟩ = some (.int .i64 0) := kz.out.cell 0
    have z1 : W9.cell? ⟨g2, 1, none⟩ = some (.int .i64 0) := kz.out.cell 1
    have z2 : W9.cell? ⟨g2, 2, none⟩ = some (.slice none 0 0) := kz.out.cell 2
    have z3 : W9.cell? ⟨g2, 3, none⟩ = some (.slice none 0 0) := kz.out.cell 3
    have z4 : W9.cell? ⟨g2, 4, none⟩ = some (.slice none 0 0) := kz.out.cell 4
    have z5 : W9.cell? ⟨g2, 5, none⟩ = some (.slice none 0 0) := kz.out.cell 5
    have z6 : W9.cell? ⟨g2, 6, none⟩ = some (.int .i64 0) := kz.out.cell 6
    have z7 : W9.cell? ⟨g2, 7, none⟩ = some (.int .i64 0) := kz.out.cell 7
    refine bodyPost_ret (v := .tuple #[zeroA, .int .i64 E]) (by simp [zeroA, results, Tryz.results60, go_sem, z0, z1, z2, z3, z4, z5, z6, z7]) rfl ?_
    exact .inl ⟨by rw [hpc.out]; first | assumption | simp, by rw [hpc.out], kb.out⟩
end
section
open Go.RowKit
set_option linter.unusedVariables false
attribute [local go_sem ↓] Go.wp_at_zero Go.wp_at_succ
theorem box_set2 {W : World} {g : Nat} {T : TypeId} {a b : Value} (h : Box W g T [a, b]) (x y : Value) : Box ((W.setCell ⟨g, 0, none⟩ x).setCell ⟨g, 1, none⟩ y) g T [x, y] := by
  have y := (h.set 0 x).set 1 y
  simpa only [List.set_cons_zero, List.set_cons_succ] using y
theorem below_set2 {w W : World} {g : Nat} (h : Below w.heap.size w W) (hg : w.heap.size ≤ g) (x y : Value) : Below w.heap.size w ((W.setCell ⟨g, 0, none⟩ x).setCell ⟨g, 1, none⟩ y) :=
  (h.setCell (p := ⟨g, 0, none⟩) hg _).setCell (p := ⟨g, 1, none⟩) hg _
theorem parse_len {b : Bs} (h : parseC b = 0) : b.length ≤ 2048 := by
  by_cases h9 : 2048 < b.length
  · rw [parseC, dec_long b h9] at h
    simp at h
  · omega
def tBatch : Bs := [115, 101, 99, 116, 105, 109, 101, 32, 98, 97, 116, 99, 104]
def sigN (b : Bs) : Bs := (unpadG (datN b 3)).getD []
def pathN (b : Bs) : List Bs := cutL 32 ((datN b 2).length / 32) (datN b 2)
def bsigOk (p b : Bs) : Bool := verifyG p (tBatch ++ datN b 4) (sigN b)
def bpathOk (n b : Bs) : Bool := checkI (datN (datN b 4) 0) (getB (datN b 1) : Int) (getB (datN b 0) : Int) n (pathN b)
def bverC (p n b : Bs) : Int := if n.length = 32 then (if parseC b = 0 then (if bsigOk p b = true then (if bpathOk n b = true then 0 else 23) else 26) else parseC b) else 3
def bverLo (p n b : Bs) : Int := if bverC p n b = 0 then unLo (datN (datN b 4) 1) else 0
def bverHi (p n b : Bs) : Int := if bverC p n b = 0 then unHi (datN (datN b 4) 1) else 0
def BVerP (p n b : Bs) (w : World) (e : Ending) (w' : World) : Prop := e = .returned (.tuple #[.agg #[.int .i64 (bverLo p n b), .int .i64 (bverHi p n b)], .int .i64 (bverC p n b)]) ∧ Below w.heap.size w w'
theorem bver_bad {p n b : Bs} {c : Int} (h : bverC p n b = c) (hc : c ≠ 0) {w w' : World} {e : Ending} (he : e = .returned (.tuple #[.agg #[.int .i64 0, .int .i64 0], .int .i64 c])) (hb : Below w.heap.size w w') : BVerP p n b w e w' := by
  refine ⟨?_, hb⟩
  rw [bverLo, bverHi, h, if_neg hc, if_neg hc]
  exact he
theorem bver_ok {p n b : Bs} {lo hi : Int} (h : bverC p n b = 0) (h1 : unLo (datN (datN b 4) 1) = lo) (h2 : unHi (datN (datN b 4) 1) = hi) {w w' : World} {e : Ending} (he : e = .returned (.tuple #[.agg #[.int .i64 lo, .int .i64 hi], .int .i64 0])) (hb : Below w.heap.size w w') : BVerP p n b w e w' := by
  refine ⟨?_, hb⟩
  rw [bverLo, bverHi, h, if_pos rfl, if_pos rfl, h1, h2]
  exact he
theorem cutL_each (size n : Nat) (l : Bs) : ∀ x ∈ cutL size n l, x.length ≤ size := by
  intro x hx
  obtain ⟨k, hk⟩ := List.mem_iff_getElem?.1 hx
  have hl : k < n := by
    have := (List.getElem?_eq_some_iff.1 hk).1
    rwa [cutL_len] at this
  have := cutL_get size n l k hl
  rw [List.getD_eq_getElem?_getD, hk] at this
  rw [Option.getD_some] at this
  rw [this, List.length_take]
  omega
theorem lit13_run (W : World) (G : Nat) (hG : G = W.heap.size) : (convert 23 23 (.slice (some ⟨G, 0, none⟩) 13 13)).run Tryz.prog (W.alloc (.cells #[.int .u8 115, .int .u8 101, .int .u8 99, .int .u8 116, .int .u8 105, .int .u8 109, .int .u8 101, .int .u8 32, .int .u8 98, .int .u8 97, .int .u8 116, .int .u8 99, .int .u8 104] 5)).drew = .ok (.slice (some ⟨G, 0, none⟩) 13 13) (W.alloc (.cells #[.int .u8 115, .int .u8 101, .int .u8 99, .int .u8 116, .int .u8 105, .int .u8 109, .int .u8 101, .int .u8 32, .int .u8 98, .int .u8 97, .int .u8 116, .int .u8 99, .int .u8 104] 5 (13, 14))).drew := by
  subst hG
  exact Lib.run_convert_bytes_const W.drew 23 5 #[.int .u8 115, .int .u8 101, .int .u8 99, .int .u8 116, .int .u8 105, .int .u8 109, .int .u8 101, .int .u8 32, .int .u8 98, .int .u8 97, .int .u8 116, .int .u8 99, .int .u8 104] 13 13 Tryz.underlying23 Tryz.underlying5
theorem lit13_sees (W : World) : SeesB (W.alloc (.cells #[.int .u8 115, .int .u8 101, .int .u8 99, .int .u8 116, .int .u8 105, .int .u8 109, .int .u8 101, .int .u8 32, .int .u8 98, .int .u8 97, .int .u8 116, .int .u8 99, .int .u8 104] 5 (13, 14))) (W.heap.size + 1) (.slice (some ⟨W.heap.size, 0, none⟩) 13 13) tBatch := litB_sees W tBatch (13, 14) (by simp [tBatch])
set_option maxRecDepth 100000 in
set_option maxHeartbeats 4000000 in
theorem bverify_any (B : Nat) (u u2 u3 : Value) (p n b : Bs) (w : World) (hu : SeesB w B u p) (hu2 : SeesB w B u2 n) (hu3 : SeesB w B u3 b) (hB : B ≤ w.heap.size) (hl : b.length ≤ 1048576) :
    Calls Tryz.prog 27 #[u, u2, u3] w (BVerP p n b w) := by
  obtain ⟨A, c, rfl, -, -⟩ := hu.mk_
  obtain ⟨A2, c2, rfl, -, -⟩ := hu2.mk_
  obtain ⟨A3, c3, rfl, -, -⟩ := hu3.mk_
  by_cases hn : n.length = 32
  · have hb0 := balloc w (.cells #[.int .i64 0, .int .i64 0] 40)
    have hr := Box.new w 40 [.int .i64 0, .int .i64 0]
    have hp := bparse_any B _ b _ (hu3.below (hb0.mono hB)) (Nat.le_trans hB hb0.size) hl
    replace hp := Lib.hid hp
    have in0 : (n.length : Int) = 32 := by omega
    go_enter Tryz.func27, Tryz.ntmps27
    go_wp2_with fail
    refine hp.out.mono ?_
    rintro e w1 hP
    clear hp hu3
    rcases hP with ⟨hC, rfl, hb1⟩ | ⟨hC, pa, si, pt, ro, rfl, spa, ⟨sg, hsg, ssi⟩, spt, sro, hb1⟩
    · have hbad : Hid (bverC p n b = parseC b) := by show _ = _; rw [bverC, if_pos hn, if_neg hC]
      replace hr := (hr.below hb1).below (balloc w1 (.cells #[.int .i64 0, .int .i64 0, .slice none 0 0, .slice none 0 0, .slice none 0 0, .slice none 0 0, .int .i64 0, .int .i64 0] 106))
      have hbw := bgo (bgo hb0 hb1) (balloc w1 (.cells #[.int .i64 0, .int .i64 0, .slice none 0 0, .slice none 0 0, .slice none 0 0, .slice none 0 0, .int .i64 0, .int .i64 0] 106))
      replace hn := Lib.hid hn
      generalize parseC b = E at *
      have hEb : (E == 0) = false := by rw [beq_eq_false_iff_ne]; exact hC
      unfold zeroA
      dsimp only
      go_upto_region 4 with (fail)
      change Box (w1.alloc (.cells #[.int .i64 0, .int .i64 0, .slice none 0 0, .slice none 0 0, .slice none 0 0, .slice none 0 0, .int .i64 0, .int .i64 0] 106)) _ _ _ at hr
      generalize w1.alloc (.cells #[.int .i64 0, .int .i64 0, .slice none 0 0, .slice none 0 0, .slice none 0 0, .slice none 0 0, .int .i64 0, .int .i64 0] 106) = W2 at *
      generalize hg2 : w.heap.size = g2 at hr ⊢
      replace hg2 := Lib.hid hg2
      have y0 := hr.cell 0
      have y1 := hr.cell 1
      simp only [List.getElem?_cons_zero, List.getElem?_cons_succ] at y0 y1
      have f0 := hr.frozen 0
      have f1 := hr.frozen 1
      replace hbw := Lib.hid hbw
      go_wp2_with fail
      replace hbw := hbw.out
      have kz := Lib.hid (box_set2 hr (.int .i64 0) (.int .i64 0))
      have kb := Lib.hid (below_set2 hbw (Nat.le_of_eq hg2.out) (.int .i64 0) (.int .i64 0))
      clear y0 y1 f0 f1
      generalize (W2.setCell ⟨g2, 0, none⟩ (.int .i64 0)).setCell ⟨g2, 1, none⟩ (.int .i64 0) = W9 at *
      have z0 : W9.cell? ⟨g2, 0, none⟩ = some (.int .i64 0) := kz.out.cell 0
      have z1 : W9.cell? ⟨g2, 1, none⟩ = some (.int .i64 0) := kz.out.cell 1
      refine bodyPost_ret (v := .tuple #[.agg #[.int .i64 0, .int .i64 0], .int .i64 E]) (by simp [results, Tryz.results27, go_sem, z0, z1]) rfl ?_
      exact bver_bad hbad.out hC rfl kb.out
    · have hin : Hid (∀ k, (datN b k).length ≤ b.length) := datN_len b
      have hix : Hid (sigN b = sg) := by show _ = _; rw [sigN, hsg]; rfl
      have hcl : Hid (∀ x ∈ pathN b, x.length ≤ 1048576) := fun x hx => Nat.le_trans (cutL_each _ _ _ x hx) (by omega)
      have hC1 : Hid (bverC p n b = if bsigOk p b = true then (if bpathOk n b = true then 0 else 23) else 26) := by show _ = _; rw [bverC, if_pos hn, if_pos hC]
      change SeesL w1 w1.heap.size pa (pathN b) at spa
      have hbs : Hid (bsigOk p b = verifyG p (tBatch ++ datN b 4) sg) := by show _ = _; rw [bsigOk, hix.out]
      have hbp : Hid (bpathOk n b = checkI (datN (datN b 4) 0) (getB (datN b 1) : Int) (getB (datN b 0) : Int) n (pathN b)) := rfl
      have hl4 : Hid ((datN b 4).length ≤ 2048) := Nat.le_trans (datN_len b 4) (parse_len hC)
      have hsl : Hid (sg.length ≤ 1048576) := by
        show _ ≤ _
        have h9 : sg.length ≤ (datN b 3).length := by
          unfold unpadG at hsg
          split at hsg
          · cases hsg
          · split at hsg
            · cases hsg
              simp
              omega
            · cases hsg
        exact Nat.le_trans h9 (Nat.le_trans (datN_len b 3) hl)
      have hlo : Hid (unLo (datN (datN b 4) 1) = unLo (datN (datN b 4) 1)) := rfl
      have hhi : Hid (unHi (datN (datN b 4) 1) = unHi (datN (datN b 4) 1)) := rfl
      generalize hlo' : unLo (datN (datN b 4) 1) = lo at hlo ⊢
      generalize hhi' : unHi (datN (datN b 4) 1) = hi at hhi ⊢
      replace hlo' := Lib.hid hlo'
      replace hhi' := Lib.hid hhi'
      clear hlo hhi
      generalize datN (datN b 4) 0 = rt at *
      generalize hd4e : datN b 4 = d4 at *
      replace hd4e := Lib.hid hd4e
      generalize getB (datN b 1) = nx at *
      generalize getB (datN b 0) = ix at *
      generalize hps : pathN b = ps at *
      replace hps := Lib.hid hps
      obtain ⟨A5, c5, rfl, -, -⟩ := spa.mk_
      obtain ⟨A6, c6, rfl, -, -⟩ := ssi.mk_
      obtain ⟨A7, c7, rfl, -, -⟩ := spt.mk_
      obtain ⟨A8, c8, rfl, -, -⟩ := sro.mk_
      have hal := balloc w1 (.cells #[.int .i64 (ix : Int), .int .i64 (nx : Int), .slice A5 ps.length c5, .slice A6 sg.length c6, .slice A7 d4.length c7, .slice A8 rt.length c8, .int .i64 lo, .int .i64 hi] 106)
      have hx := Box.new w1 106 [.int .i64 (ix : Int), .int .i64 (nx : Int), .slice A5 ps.length c5, .slice A6 sg.length c6, .slice A7 d4.length c7, .slice A8 rt.length c8, .int .i64 lo, .int .i64 hi]
      change Box (w1.alloc (.cells #[.int .i64 (ix : Int), .int .i64 (nx : Int), .slice A5 ps.length c5, .slice A6 sg.length c6, .slice A7 d4.length c7, .slice A8 rt.length c8, .int .i64 lo, .int .i64 hi] 106)) _ _ _ at hx
      replace hr := (hr.below hb1).below hal
      have hbw := bgo (bgo hb0 hb1) hal
      have spa2 := seesL_of spa (Nat.le_refl _) hal
      have ssi2 := seesB_of ssi (Nat.le_refl _) hal
      have spt2 := seesB_of spt (Nat.le_refl _) hal
      have sro2 := seesB_of sro (Nat.le_refl _) hal
      have su := seesB_of hu hB hbw
      have su2 := seesB_of hu2 hB hbw
      clear spa ssi spt sro hu hu2 hsg hal hb0 hb1 hin
      replace hC := Lib.hid hC
      replace hn := Lib.hid hn
      dsimp only
      go_upto_region 4 with (fail)
      generalize w1.alloc (.cells #[.int .i64 (ix : Int), .int .i64 (nx : Int), .slice A5 ps.length c5, .slice A6 sg.length c6, .slice A7 d4.length c7, .slice A8 rt.length c8, .int .i64 lo, .int .i64 hi] 106) = W2 at *
      generalize w1.heap.size = G at *
      generalize hg2 : w.heap.size = g2 at hr ⊢
      replace hg2 := Lib.hid hg2
      have K : Hid (∀ W : World, Below W2.heap.size W2 W → W.cell? ⟨G, 3, none⟩ = some (.slice A6 sg.length c6) ∧ W.cell? ⟨G, 4, none⟩ = some (.slice A7 d4.length c7)) := fun W hW => ⟨(hx.below hW).cell 3, (hx.below hW).cell 4⟩
      obtain ⟨x3, x4⟩ := K.out W2 (Below.refl _ _)
      have hcv := lit13_run W2 W2.heap.size rfl
      have hLS := lit13_sees W2
      have hbL := balloc W2 (.cells #[.int .u8 115, .int .u8 101, .int .u8 99, .int .u8 116, .int .u8 105, .int .u8 109, .int .u8 101, .int .u8 32, .int .u8 98, .int .u8 97, .int .u8 116, .int .u8 99, .int .u8 104] 5 (13, 14))
      have hfl : [tBatch, d4].flatten = tBatch ++ d4 := by simp
      have htl : tBatch.length = 13 := rfl
      have hj : Calls Tryz.prog 45 #[.slice (some ⟨W2.heap.size + 1, 0, none⟩) 2 2] ((W2.alloc (.cells #[.int .u8 115, .int .u8 101, .int .u8 99, .int .u8 116, .int .u8 105, .int .u8 109, .int .u8 101, .int .u8 32, .int .u8 98, .int .u8 97, .int .u8 116, .int .u8 99, .int .u8 104] 5 (13, 14))).alloc (.cells #[.slice (some ⟨W2.heap.size, 0, none⟩) 13 13, .slice A7 d4.length c7] 23)).drew fun e w' => ∃ v, e = .returned v ∧ OwnB w' W2.heap.size v [tBatch, d4].flatten ∧ Below W2.heap.size W2 w' :=
        join_lit (vs := [.slice (some ⟨W2.heap.size, 0, none⟩) 13 13, .slice A7 d4.length c7]) [tBatch, d4] W2 (W2.alloc (.cells #[.int .u8 115, .int .u8 101, .int .u8 99, .int .u8 116, .int .u8 105, .int .u8 109, .int .u8 101, .int .u8 32, .int .u8 98, .int .u8 97, .int .u8 116, .int .u8 99, .int .u8 104] 5 (13, 14))).drew (W2.heap.size + 1) (World.size_alloc _ _) (hbL.drew) ⟨hLS.more (by show _ ≤ (W2.alloc _).heap.size; rw [World.size_alloc]; exact Nat.le_refl _), seesB_of spt2 (Nat.le_refl _) hbL.drew, trivial⟩ (by simp) (by rw [hfl]; simp [htl]; have := hl4.out; omega)
      rw [hfl] at hj
      have hm2 : (tBatch ++ d4).length ≤ 1048589 := by rw [List.length_append, htl]; have := hl4.out; omega
      have hvf : Hid (∀ W v, Below W2.heap.size W2 W → SeesB W W.heap.size v (tBatch ++ d4) → Calls Tryz.prog 58 #[.slice A p.length c, v, .slice A6 sg.length c6] W (BoolPost (bsigOk p b) W)) := fun W v hW hv => by
        rw [hbs.out]
        exact verify_any W.heap.size _ v _ p (tBatch ++ d4) sg W (seesB_of su (Nat.le_refl _) hW) hv (seesB_of ssi2 (Nat.le_refl _) hW) (Nat.le_refl _) (by have := hl4.out; rw [List.length_append, htl]; omega) hsl.out
      have hck : Hid (∀ W, Below W2.heap.size W2 W → Calls Tryz.prog 61 #[.slice A8 rt.length c8, .int .i64 (nx : Int), .int .i64 (ix : Int), .slice A2 n.length c2, .slice A5 ps.length c5] W (BoolPost (bpathOk n b) W)) := fun W hW => by
        rw [hbp.out]
        exact check_any rt (nx : Int) (ix : Int) n ps W.heap.size _ _ _ W (seesB_of sro2 (Nat.le_refl _) hW) (seesB_of su2 (Nat.le_refl _) hW) (seesL_of spa2 (Nat.le_refl _) hW) (Nat.le_refl _) (by have := hn.out; omega) hcl.out
      generalize hTB : tBatch ++ d4 = TB at hj hvf
      replace hTB := Lib.hid hTB
      replace hj := Lib.hid hj
      replace hbw := Lib.hid hbw
      replace hr := Lib.hid hr
      replace hx := Lib.hid hx
      generalize hsb : bsigOk p b = sok at *
      generalize hpb : bpathOk n b = pok at *
      replace hsb := Lib.hid hsb
      replace hpb := Lib.hid hpb
      clear spa2 ssi2 spt2 sro2 su su2 hLS hbL hfl htl hbs hbp hcl hm2 hl4 hsl
      go_wp2_with fail
      go_cut [24] (fun v W => v = .bool (!sok) ∧ Hid (Below W2.heap.size W2 W))
      case first =>
        have a3 : (W2.alloc (.cells #[.int .u8 115, .int .u8 101, .int .u8 99, .int .u8 116, .int .u8 105, .int .u8 109, .int .u8 101, .int .u8 32, .int .u8 98, .int .u8 97, .int .u8 116, .int .u8 99, .int .u8 104] 5)).cell? ⟨G, 3, none⟩ = some (.slice A6 sg.length c6) := (K.out _ (balloc W2 _)).1
        have a4 : (W2.alloc (.cells #[.int .u8 115, .int .u8 101, .int .u8 99, .int .u8 116, .int .u8 105, .int .u8 109, .int .u8 101, .int .u8 32, .int .u8 98, .int .u8 97, .int .u8 116, .int .u8 99, .int .u8 104] 5)).cell? ⟨G, 4, none⟩ = some (.slice A7 d4.length c7) := (K.out _ (balloc W2 _)).2
        have b3 : (W2.alloc (.cells #[.int .u8 115, .int .u8 101, .int .u8 99, .int .u8 116, .int .u8 105, .int .u8 109, .int .u8 101, .int .u8 32, .int .u8 98, .int .u8 97, .int .u8 116, .int .u8 99, .int .u8 104] 5 (13, 14))).cell? ⟨G, 3, none⟩ = some (.slice A6 sg.length c6) := (K.out _ (balloc W2 _)).1
        have b4 : (W2.alloc (.cells #[.int .u8 115, .int .u8 101, .int .u8 99, .int .u8 116, .int .u8 105, .int .u8 109, .int .u8 101, .int .u8 32, .int .u8 98, .int .u8 97, .int .u8 116, .int .u8 99, .int .u8 104] 5 (13, 14))).cell? ⟨G, 4, none⟩ = some (.slice A7 d4.length c7) := (K.out _ (balloc W2 _)).2
        have e3 : ((W2.alloc (.cells #[.int .u8 115, .int .u8 101, .int .u8 99, .int .u8 116, .int .u8 105, .int .u8 109, .int .u8 101, .int .u8 32, .int .u8 98, .int .u8 97, .int .u8 116, .int .u8 99, .int .u8 104] 5 (13, 14))).alloc (.cells #[.slice (some ⟨W2.heap.size, 0, none⟩) 13 13, .slice A7 d4.length c7] 23)).cell? ⟨G, 3, none⟩ = some (.slice A6 sg.length c6) := (K.out _ (bgo (balloc W2 _) (balloc _ _))).1
        go_region_with
          (first
            | (go_at_call 58; (with_reducible refine (hvf.out _ _ hb3 h3.sees).mono ?_); rintro e w4 ⟨rfl, hb4⟩; replace hb4 := bgo hb3 hb4)
            | (go_at_call 45; (with_reducible refine hj.out.mono ?_); rintro e w3 ⟨v3, rfl, h3, hb3⟩; obtain ⟨A9, c9, rfl, -, -⟩ := h3.sees.mk_; have d3 := (K.out _ hb3).1))
        all_goals
          go_wp2_with fail
          go_meet
          exact ⟨rfl, hb4⟩
      case rest =>
        obtain ⟨rfl, hb4⟩ := hcut
        obtain ⟨w4, rfl⟩ : ∃ w4 : World, w4 = wc := ⟨_, rfl⟩
        replace hb4 := hb4.out
        have hbw4 := bgo hbw.out hb4
        clear x3 x4 hcv
        have hx4 := hx.out.below hb4
        replace hr := hr.out.below hb4
        have x0 := hx4.cell 0
        have x1 := hx4.cell 1
        have x2 := hx4.cell 2
        have x5 := hx4.cell 5
        simp only [List.getElem?_cons_zero, List.getElem?_cons_succ] at x0 x1 x2 x5
        clear hj K
        have hck4 := Lib.hid (hck.out w4 hb4)
        clear hck hvf
        replace hbw := hbw4
        clear hbw4
        cases sok with
        | false =>
          have hbad : Hid (bverC p n b = 26) := by show _ = _; rw [hC1.out]; simp
          clear x0 x1 x2 x5 hck4
          have y0 := hr.cell 0
          have y1 := hr.cell 1
          simp only [List.getElem?_cons_zero, List.getElem?_cons_succ] at y0 y1
          have f0 := hr.frozen 0
          have f1 := hr.frozen 1
          replace hbw := Lib.hid hbw
          go_wp2_with fail
          replace hbw := hbw.out
          have kz := Lib.hid (box_set2 hr (.int .i64 0) (.int .i64 0))
          have kb := Lib.hid (below_set2 hbw (Nat.le_of_eq hg2.out) (.int .i64 0) (.int .i64 0))
          clear y0 y1 f0 f1
          generalize (w4.setCell ⟨g2, 0, none⟩ (.int .i64 0)).setCell ⟨g2, 1, none⟩ (.int .i64 0) = W9 at *
          have z0 : W9.cell? ⟨g2, 0, none⟩ = some (.int .i64 0) := kz.out.cell 0
          have z1 : W9.cell? ⟨g2, 1, none⟩ = some (.int .i64 0) := kz.out.cell 1
          refine bodyPost_ret (v := .tuple #[.agg #[.int .i64 0, .int .i64 0], .int .i64 26]) (by simp [results, Tryz.results27, go_sem, z0, z1]) rfl ?_
          exact bver_bad hbad.out (by decide) rfl kb.out
        | true =>
          replace hbw := Lib.hid hbw
          go_wp2_with fail
          refine hck4.out.mono ?_
          rintro e w5 ⟨rfl, hb5⟩
          replace hbw := bgo hbw.out hb5
          replace hr := hr.below hb5
          have hx5 := hx4.below hb5
          clear x0 x1 x2 x5 hck4 hx4
          cases pok with
          | false =>
            have hbad : Hid (bverC p n b = 23) := by show _ = _; rw [hC1.out]; simp
            have y0 := hr.cell 0
            have y1 := hr.cell 1
            simp only [List.getElem?_cons_zero, List.getElem?_cons_succ] at y0 y1
            have f0 := hr.frozen 0
            have f1 := hr.frozen 1
            replace hbw := Lib.hid hbw
            go_wp2_with fail
            replace hbw := hbw.out
            have kz := Lib.hid (box_set2 hr (.int .i64 0) (.int .i64 0))
            have kb := Lib.hid (below_set2 hbw (Nat.le_of_eq hg2.out) (.int .i64 0) (.int .i64 0))
            clear y0 y1 f0 f1
            generalize (w5.setCell ⟨g2, 0, none⟩ (.int .i64 0)).setCell ⟨g2, 1, none⟩ (.int .i64 0) = W9 at *
            have z0 : W9.cell? ⟨g2, 0, none⟩ = some (.int .i64 0) := kz.out.cell 0
            have z1 : W9.cell? ⟨g2, 1, none⟩ = some (.int .i64 0) := kz.out.cell 1
            refine bodyPost_ret (v := .tuple #[.agg #[.int .i64 0, .int .i64 0], .int .i64 23]) (by simp [results, Tryz.results27, go_sem, z0, z1]) rfl ?_
            exact bver_bad hbad.out (by decide) rfl kb.out
          | true =>
            have hok : Hid (bverC p n b = 0) := by show _ = _; rw [hC1.out]; simp
            have x6 := hx5.cell 6
            have x7 := hx5.cell 7
            simp only [List.getElem?_cons_zero, List.getElem?_cons_succ] at x6 x7
            have y0 := hr.cell 0
            have y1 := hr.cell 1
            simp only [List.getElem?_cons_zero, List.getElem?_cons_succ] at y0 y1
            have f0 := hr.frozen 0
            have f1 := hr.frozen 1
            replace hbw := Lib.hid hbw
            go_wp2_with fail
            replace hbw := hbw.out
            have kz := Lib.hid (box_set2 hr (.int .i64 lo) (.int .i64 hi))
            have kb := Lib.hid (below_set2 hbw (Nat.le_of_eq hg2.out) (.int .i64 lo) (.int .i64 hi))
            clear y0 y1 f0 f1
            generalize (w5.setCell ⟨g2, 0, none⟩ (.int .i64 lo)).setCell ⟨g2, 1, none⟩ (.int .i64 hi) = W9 at *
            have z0 : W9.cell? ⟨g2, 0, none⟩ = some (.int .i64 lo) := kz.out.cell 0
            have z1 : W9.cell? ⟨g2, 1, none⟩ = some (.int .i64 hi) := kz.out.cell 1
            refine bodyPost_ret (v := .tuple #[.agg #[.int .i64 lo, .int .i64 hi], .int .i64 0]) (by simp [results, Tryz.results27, go_sem, z0, z1]) rfl ?_
            exact bver_ok hok.out (by rw [hd4e.out]; exact hlo'.out) (by rw [hd4e.out]; exact hhi'.out) rfl kb.out
  · have in0 : ¬ ((n.length : Int) = 32) := by omega
    have hbad : Hid (bverC p n b = 3) := by show _ = _; rw [bverC, if_neg hn]
    clear hu hu2 hu3 hn
    go_enter Tryz.func27, Tryz.ntmps27
    go_wp2_with fail
    go_returns
    exact bver_bad hbad.out (by decide) rfl (by go_grown)
end
section
open Go.RowKit
set_option linter.unusedVariables false
attribute [local go_sem ↓] Go.wp_at_zero Go.wp_at_succ
def all32 (ls : List Bs) : Bool := ls.all fun l => decide (l.length = 32)
theorem all32_take (ls : List Bs) (k : Nat) (l : Bs) (h : ls[k]? = some l) : all32 (ls.take (k + 1)) = (all32 (ls.take k) && decide (l.length = 32)) := by
  rw [take_one ls k l h]
  unfold all32
  rw [List.all_append]
  simp
theorem all32_each {ls : List Bs} (h : all32 ls = true) : ∀ l ∈ ls, l.length = 32 := by
  intro l hl
  unfold all32 at h
  rw [List.all_eq_true] at h
  simpa using h l hl
theorem chk1_any (A : Option Addr) (n c : Nat) (w : World) : Calls Tryz.prog 75 #[.slice A n c] w fun e w' => e = .returned (.bool (!decide ((n : Int) = 32))) ∧ w' = w := by
  go_enter Tryz.func75, Tryz.ntmps75
  go_wp2_with fail
  go_ret
  exact ⟨by by_cases h : (n : Int) = 32 <;> simp [h], rfl⟩
set_option maxRecDepth 100000 in
theorem idx_any (B : Nat) (u : Value) (ls : List Bs) (w : World) (hu : SeesL w B u ls) (hB : B ≤ w.heap.size) (hn : ls.length ≤ 1048576) :
    Calls Tryz.prog 104 #[u, .func (.func 75) #[] #[]] w fun e w' => (∃ i : Int, e = .returned (.int .i64 i) ∧ decide (0 ≤ i) = !(all32 ls)) ∧ Below w.heap.size w w' := by
  obtain ⟨A, c, rfl, -, -⟩ := hu.mk_
  replace hu := Lib.hid hu
  go_enter Tryz.func104, Tryz.ntmps104
  go_wp2_with fail
  go_loopw [8] (fun t wr => ∃ k : Nat, k ≤ ls.length ∧ t = .int .i64 k ∧ Hid (all32 (ls.take k) = true) ∧ Hid (Below w.heap.size w wr)) (fun t _ => ls.length - (intOf t).toNat)
  case atStart => exact ⟨0, by omega, rfl, rfl, Below.refl _ _⟩
  case round =>
    obtain ⟨k, hk, rfl, ha, hb⟩ := hrel
    by_cases hlt : k < ls.length
    · obtain ⟨b, o, rfl, hbB, hds⟩ := (hu.out.below (hb.out.mono hB)).at_ (by omega)
      obtain ⟨A', c', y1, -, -, sd⟩ := hds k hlt
      have hdk : ls[k]? = some (ls.getD k []) := by rw [List.getD_eq_getElem?_getD, List.getElem?_eq_getElem hlt]; rfl
      have hst := Lib.hid (all32_take ls k _ hdk)
      generalize hda : ls.getD k [] = da at *
      have i0 : (k : Int) < (ls.length : Int) := by omega
      have hmem : Hid (da ∈ ls) := by show _ ∈ _; exact List.mem_of_getElem? hdk
      have hc1 := Lib.hid (fun W => chk1_any A' da.length c' W)
      replace hda := Lib.hid hda
      replace hdk := Lib.hid hdk
      clear hds sd
      go_wp2_with fail
      refine (hc1.out wr).mono ?_
      rintro e w1 ⟨rfl, hw⟩
      obtain rfl := hw.symm
      dsimp only
      by_cases h32 : da.length = 32
      · have hd : (!decide ((da.length : Int) = 32)) = false := by simp; omega
        rw [hd]
        have hst2 : Hid (all32 (ls.take (k + 1)) = true) := by show _ = _; rw [hst.out, ha.out]; simp [h32]
        clear hd
        replace h32 := Lib.hid h32
        go_wp2_with fail
        go_roundw
        case rel => exact ⟨k + 1, by omega, by go_num, hst2, hb⟩
        case measure => simp [intOf]; omega
      · have hd : (!decide ((da.length : Int) = 32)) = true := by simp; omega
        rw [hd]
        have hno : Hid (all32 ls = false) := by
          show _ = _
          cases h : all32 ls with
          | false => rfl
          | true => exact absurd (all32_each h da hmem.out) h32
        clear hd
        replace h32 := Lib.hid h32
        go_wp2_with fail
        go_returns
        exact ⟨⟨_, rfl, by rw [hno.out]; simp⟩, hb.out⟩
    · have i0 : ¬ (k : Int) < (ls.length : Int) := by omega
      rw [List.take_of_length_le (by omega)] at ha
      go_wp2_with fail
      go_returns
      exact ⟨⟨_, rfl, by rw [ha.out]; rfl⟩, hb.out⟩
theorem cont_any (B : Nat) (u : Value) (ls : List Bs) (w : World) (hu : SeesL w B u ls) (hB : B ≤ w.heap.size) (hn : ls.length ≤ 1048576) :
    Calls Tryz.prog 74 #[u, .func (.func 75) #[] #[]] w (BoolPost (!(all32 ls)) w) := by
  have hi := Lib.hid (idx_any B u ls w hu hB hn)
  obtain ⟨A, c, rfl, -, -⟩ := hu.mk_
  clear hu
  go_enter Tryz.func74, Tryz.ntmps74
  go_wp2_with fail
  refine hi.out.mono ?_
  rintro e w1 ⟨⟨i, rfl, hd⟩, hb⟩
  replace hd := Lib.hid hd
  dsimp only
  go_wp2_with fail
  go_ret
  exact ⟨by rw [← hd.out]; rfl, hb⟩
/-- The first error of what a batch is made of. -/
def bchkC (sd : Bs) (h n : Int) (ns : List Bs) (lo hi : Int) : Int :=
  if validI sd h n = true then (if ns.length < 1 ∨ 16 < ns.length then 8 else if (vS lo hi && all32 ns) = true then 0 else 3) else 3
set_option maxRecDepth 100000 in
theorem bcheck_any (B : Nat) (u u2 : Value) (sd : Bs) (h n : Int) (ns : List Bs) (lo hi : Int) (w : World) (hu : SeesB w B u sd) (hu2 : SeesL w B u2 ns) (hB : B ≤ w.heap.size) :
    Calls Tryz.prog 42 #[.agg #[u, .int .i64 h, .int .i64 n], u2, .agg #[.int .i64 lo, .int .i64 hi]] w fun e w' => e = .returned (.int .i64 (bchkC sd h n ns lo hi)) ∧ Below w.heap.size w w' := by
  obtain ⟨A, c, rfl, -, -⟩ := hu.mk_
  obtain ⟨A2, c2, rfl, -, -⟩ := hu2.mk_
  have hC : Hid (∀ x : Int, bchkC sd h n ns lo hi = x → bchkC sd h n ns lo hi = x) := fun _ h => h
  have hal := bgo (balloc w (.cells #[.slice A sd.length c, .int .i64 h, .int .i64 n] 25)) (balloc _ (.cells #[.int .i64 lo, .int .i64 hi] 40))
  have hva := Lib.hid (svalid_any _ (.slice A sd.length c) sd h n _ (seesB_of hu hB hal))
  have hls := Lib.hid (fun W (hW : Below w.heap.size w W) (hn : ns.length ≤ 1048576) => cont_any B _ ns W (hu2.below (hW.mono hB)) (Nat.le_trans hB hW.size) hn)
  have hvs := Lib.hid (fun W => valid_any lo hi W)
  have x3 := (Box.new w 25 [.slice A sd.length c, .int .i64 h, .int .i64 n]).below (balloc _ (.cells #[.int .i64 lo, .int .i64 hi] 40))
  have x5 := Box.new (w.alloc (.cells #[.slice A sd.length c, .int .i64 h, .int .i64 n] 25)) 40 [.int .i64 lo, .int .i64 hi]
  rw [World.size_alloc] at x5
  have c0 := x3.cell 0
  have c1 := x3.cell 1
  have c2' := x3.cell 2
  simp only [List.getElem?_cons_zero, List.getElem?_cons_succ] at c0 c1 c2'
  have x5' := Lib.hid x5
  replace hal := Lib.hid hal
  clear hu hu2 x3 x5
  go_enter Tryz.func42, Tryz.ntmps42
  go_upto_region 1 with (fail)
  generalize (w.alloc (.cells #[.slice A sd.length c, .int .i64 h, .int .i64 n] 25)).alloc (.cells #[.int .i64 lo, .int .i64 hi] 40) = W at *
  generalize w.heap.size + 1 = g5 at *
  go_wp2_with fail
  refine hva.out.mono ?_
  rintro e w1 ⟨rfl, hb1⟩
  have hbw := Lib.hid (bgo hal.out hb1)
  have x5 := x5'.out.below hb1
  clear c0 c1 c2' hva x5'
  dsimp only
  cases hV : validI sd h n with
  | false =>
    have hr : Hid (bchkC sd h n ns lo hi = 3) := by show _ = _; rw [bchkC, hV]; rfl
    clear x5
    go_wp2_with fail
    go_returns
    exact ⟨by rw [hr.out]; rfl, hbw.out⟩
  | true =>
    by_cases h8 : ns.length < 1 ∨ 16 < ns.length
    · have hr : Hid (bchkC sd h n ns lo hi = 8) := by show _ = _; rw [bchkC, if_pos hV, if_pos h8]
      clear x5
      rcases h8 with h8 | h8
      · have i0 : (ns.length : Int) < 1 := by omega
        go_wp2_with fail
        go_returns
        exact ⟨by rw [hr.out]; rfl, hbw.out⟩
      · have i0 : ¬ (ns.length : Int) < 1 := by omega
        have i1 : (16 : Int) < (ns.length : Int) := by omega
        go_wp2_with fail
        go_returns
        exact ⟨by rw [hr.out]; rfl, hbw.out⟩
    · have i0 : ¬ (ns.length : Int) < 1 := by omega
      have i1 : ¬ (16 : Int) < (ns.length : Int) := by omega
      have hr : Hid (bchkC sd h n ns lo hi = if (vS lo hi && all32 ns) = true then 0 else 3) := by show _ = _; rw [bchkC, if_pos hV, if_neg h8]
      have y0 := x5.cell 0
      have y1 := x5.cell 1
      simp only [List.getElem?_cons_zero, List.getElem?_cons_succ] at y0 y1
      replace h8 := Lib.hid h8
      replace hV := Lib.hid hV
      clear x5
      go_wp2_with fail
      refine (hvs.out _).mono ?_
      rintro e w2 ⟨rfl, hb2⟩
      replace hbw := Lib.hid (bgo hbw.out hb2)
      clear y0 y1
      dsimp only
      cases hv : vS lo hi with
      | false =>
        rw [hv] at hr
        replace hv := Lib.hid hv
        go_wp2_with fail
        go_returns
        exact ⟨by rw [hr.out]; rfl, hbw.out⟩
      | true =>
        rw [hv] at hr
        replace hv := Lib.hid hv
        have hcn := Lib.hid (hls.out w2 hbw.out (by have := h8.out; omega))
        go_wp2_with fail
        refine hcn.out.mono ?_
        rintro e w3 ⟨rfl, hb3⟩
        replace hbw := Lib.hid (bgo hbw.out hb3)
        dsimp only
        cases ha : all32 ns with
        | false =>
          rw [ha] at hr
          go_wp2_with fail
          go_returns
          exact ⟨by rw [hr.out]; rfl, hbw.out⟩
        | true =>
          rw [ha] at hr
          go_wp2_with fail
          go_returns
          exact ⟨by rw [hr.out]; rfl, hbw.out⟩
end
end Go.Proofs.YtamdgjgommejjaaGreat

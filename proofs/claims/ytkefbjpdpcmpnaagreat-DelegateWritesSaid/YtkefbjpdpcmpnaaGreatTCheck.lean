/- Contract of rough.check: the first error of tags. Conditions: the tags are seen, at most 1048576. -/
import Derived.Test.YtkefbjpdpcmpnaaGreatNamed
namespace Go.Proofs.YtkefbjpdpcmpnaaGreat
open Go.RowKit
set_option linter.unusedVariables false
attribute [local go_sem ↓] Go.wp_at_zero Go.wp_at_succ
/-- The cells of tag k. -/
theorem tag_at {w : World} {B n c : Nat} {A : Option Addr} {ts : List (Bs × Bs)} (h : SeesR w B (.slice A n c) 2 n (tagS ts)) (k : Nat) (t : Bs × Bs) (hk : ts[k]? = some t) :
    ∃ b o A' c', A = some ⟨b, o, none⟩ ∧ b < B ∧ w.cell? ⟨b, o + k * 2, none⟩ = some (.string (strB t.1)) ∧ w.cell? ⟨b, o + k * 2 + 1, none⟩ = some (.slice A' t.2.length c') ∧ SeesB w B (.slice A' t.2.length c') t.2 := by
  have hl := h.1
  rw [tagS_len] at hl
  have hkl := (List.getElem?_eq_some_iff.1 hk).1
  obtain ⟨b, o, e, hb, hc⟩ := h.at_ (by omega)
  obtain ⟨g1, g2⟩ := tagS_get ts k t hk
  rw [Nat.mul_comm 2 k] at g1 g2
  obtain ⟨u1, c1, f1⟩ := hc _ _ g1
  obtain ⟨u2, c2, f2⟩ := hc _ _ g2
  obtain ⟨rfl, -⟩ := f1
  have f2 : SeesB w B u2 t.2 := f2
  obtain ⟨A', c', rfl, -, -⟩ := f2.mk_
  exact ⟨b, o, A', c', e, hb, c1, by rw [Nat.add_assoc]; exact c2, f2⟩
set_option maxRecDepth 100000 in
theorem tcheck_any (B : Nat) (u : Value) (ts : List (Bs × Bs)) (w : World) (hu : SeesR w B u 2 ts.length (tagS ts)) (hB : B ≤ w.heap.size) (hn : ts.length ≤ 1048576) :
    Calls Tryz.prog 159 #[u] w fun e w' => e = .returned (.int .i64 (checkT [] ts)) ∧ Below w.heap.size w w' := by
  obtain ⟨A, c, rfl, -, -⟩ := hu.mk_
  replace hu := Lib.hid hu
  go_enter Tryz.func159, Tryz.ntmps159
  go_wp2_with fail
  go_loopw [3, 5, 8, 12, 17, 22] (fun v _ t _ _ _ wr => ∃ (k : Nat) (last : Bs), k ≤ ts.length ∧ t = .int .i64 k ∧ v = .string (strB last) ∧ Hid (checkT last (ts.drop k) = checkT [] ts) ∧ Hid (Below w.heap.size w wr)) (fun _ _ t _ _ _ _ => ts.length - (intOf t).toNat)
  case atStart => exact ⟨0, [], by omega, rfl, rfl, rfl, Below.refl _ _⟩
  case round =>
    obtain ⟨k, last, hk, rfl, rfl, hch, hb⟩ := hrel
    by_cases hlt : k < ts.length
    · obtain ⟨t, ht⟩ : ∃ t, ts[k]? = some t := ⟨ts[k], List.getElem?_eq_getElem hlt⟩
      obtain ⟨b, o, A', c', rfl, hbB, x0, x1, -⟩ := tag_at (hu.out.below (hb.out.mono hB)) k t ht
      have hnm := fun W => named_any t.1 W
      have hcm := Lib.hid (checkT_step ts k t last ht)
      have hcn := Lib.hid (checkT_name ts k t last ht)
      have hco := Lib.hid (checkT_order ts k t last ht)
      have hcf := Lib.hid (checkT_form ts k t last ht)
      have l1 := strB_toList t.1
      have l2 := strB_toList last
      obtain ⟨nm, da⟩ := t
      dsimp only at hnm hcm hcn hco hcf l1 l2 x0 x1
      have i0 : (k : Int) < (ts.length : Int) := by omega
      have hbA := balloc wr (.cells #[.string (strB nm), .slice A' da.length c'] 131)
      have hx := Box.new wr 131 [.string (strB nm), .slice A' da.length c']
      change Box (wr.alloc (.cells #[.string (strB nm), .slice A' da.length c'] 131)) _ _ _ at hx
      replace hb := Lib.hid (bgo hb.out hbA)
      replace ht := Lib.hid ht
      clear hbA
      generalize hS1 : strB nm = S1 at *
      replace hS1 := Lib.hid hS1
      generalize strB last = S2 at *
      cases hV : namedG nm with
      | false =>
        have hend := hcn.out hV
        rw [hch.out] at hend
        rw [hV] at hnm
        replace hnm := Lib.hid hnm
        replace hend := Lib.hid hend
        go_wp2_with fail
        refine (hnm.out _).mono ?_
        rintro e w2 ⟨rfl, hb2⟩
        dsimp only
        go_wp2_with fail
        go_returns
        exact ⟨by rw [hend.out]; rfl, bgo hb.out hb2⟩
      | true =>
        rw [hV] at hnm
        replace hnm := Lib.hid hnm
        go_wp2_with fail
        refine (hnm.out _).mono ?_
        rintro e w2 ⟨rfl, hb2⟩
        replace hx := hx.below hb2
        replace hb := Lib.hid (bgo hb.out hb2)
        generalize hG : wr.heap.size = G at hx ⊢
        have y0 := hx.cell 0
        have y1 := hx.cell 1
        simp only [List.getElem?_cons_zero, List.getElem?_cons_succ] at y0 y1
        replace hG := Lib.hid hG
        clear x0 x1
        dsimp only
        cases hp : Op.bytesLess nm last with
        | true =>
          have hend := hco.out hV (by rw [hp, Bool.true_or])
          rw [hch.out] at hend
          replace hend := Lib.hid hend
          go_wp2_with fail
          go_returns
          exact ⟨by rw [hend.out]; rfl, hb.out⟩
        | false =>
          cases hq : (nm == last) with
          | true =>
            have hend := hco.out hV (by rw [hp, hq]; rfl)
            rw [hch.out] at hend
            replace hend := Lib.hid hend
            go_wp2_with fail
            go_returns
            exact ⟨by rw [hend.out]; rfl, hb.out⟩
          | false =>
            have hD : (Op.bytesLess nm last || nm == last) = false := by rw [hp, hq]; rfl
            by_cases h4 : da.length % 4 = 0
            · have hend := Lib.hid (hcm.out hV hD h4)
              have i4 : ((da.length : Nat) : Int) % 4 = 0 := by omega
              replace h4 := Lib.hid h4
              replace hD := Lib.hid hD
              go_wp2_with fail
              go_roundw
              case rel => exact ⟨k + 1, nm, by omega, by go_num, by rw [hS1.out], by show _ = _; rw [← hend.out, hch.out], hb⟩
              case measure => simp [intOf]; omega
            · have hend := hcf.out hV hD h4
              rw [hch.out] at hend
              have i4 : ¬ (((da.length : Nat) : Int) % 4 = 0) := by omega
              replace hend := Lib.hid hend
              replace h4 := Lib.hid h4
              replace hD := Lib.hid hD
              go_wp2_with fail
              go_returns
              exact ⟨by rw [hend.out]; rfl, hb.out⟩
    · have hend : Hid (checkT [] ts = 0) := by
        show _ = _
        rw [← hch.out, List.drop_eq_nil_of_le (by omega)]
        rfl
      have i0 : ¬ (k : Int) < (ts.length : Int) := by omega
      go_wp2_with fail
      go_returns
      exact ⟨by rw [hend.out]; rfl, hb.out⟩
end Go.Proofs.YtkefbjpdpcmpnaaGreat

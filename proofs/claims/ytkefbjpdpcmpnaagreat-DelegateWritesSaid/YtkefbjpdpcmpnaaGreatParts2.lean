/- Contracts of tagged.Parts and sectimeref28.Exactly: the data of tags with given names. Conditions: tags and names are seen. -/
import Derived.Test.YtkefbjpdpcmpnaaGreatRTDec
namespace Go.Proofs.YtkefbjpdpcmpnaaGreat
open Go.RowKit
set_option linter.unusedVariables false
attribute [local go_sem ↓] Go.wp_at_zero Go.wp_at_succ
def nameS (ns : List Bs) : List Spec := ns.map fun s => .val (.string (strB s))
def PartsP (ts : List (Bs × Bs)) (ns : List Bs) (w : World) (e : Ending) (w' : World) : Prop :=
  (ts.map (·.1) = ns ∧ ∃ v, e = .returned (.tuple #[v, .bool true]) ∧ OwnL w' w.heap.size v (ts.map (·.2)) ∧ Below w.heap.size w w') ∨
  (ts.map (·.1) ≠ ns ∧ e = .returned (.tuple #[.slice none 0 0, .bool false]) ∧ Below w.heap.size w w')
theorem name_at {w : World} {B n c : Nat} {A : Option Addr} {ns : List Bs} (h : SeesR w B (.slice A n c) 1 n (nameS ns)) (k : Nat) (s : Bs) (hk : ns[k]? = some s) :
    ∃ b o, A = some ⟨b, o, none⟩ ∧ b < B ∧ w.cell? ⟨b, o + k, none⟩ = some (.string (strB s)) := by
  have hl := h.1
  simp only [nameS, List.length_map, Nat.mul_one] at hl
  have hkl := (List.getElem?_eq_some_iff.1 hk).1
  obtain ⟨b, o, e, hb, hc⟩ := h.at_ (by omega)
  obtain ⟨u1, c1, f1⟩ := hc k (.val (.string (strB s))) (by simp [nameS, hk])
  obtain ⟨rfl, -⟩ := f1
  exact ⟨b, o, e, hb, c1⟩
set_option maxRecDepth 100000 in
set_option maxHeartbeats 2000000 in
theorem exactly_any (B B2 : Nat) (u u2 : Value) (ts : List (Bs × Bs)) (ns : List Bs) (w : World) (hu : SeesR w B u 2 ts.length (tagS ts)) (hu2 : SeesR w B2 u2 1 ns.length (nameS ns)) (hB : B ≤ w.heap.size) (hB2 : B2 ≤ w.heap.size) (hn : ts.length ≤ 1048576) :
    Calls Tryz.prog 73 #[u, u2] w (PartsP ts ns w) := by
  obtain ⟨A, c, rfl, -, -⟩ := hu.mk_
  obtain ⟨A2, c2, rfl, -, -⟩ := hu2.mk_
  replace hu := Lib.hid hu
  replace hu2 := Lib.hid hu2
  by_cases hl : ts.length = ns.length
  · have hl1 : (ts.length : Int) = (ns.length : Int) := by omega
    have hl2 := Lib.hid hl
    clear hl
    go_enter Tryz.func73, Tryz.ntmps73
    go_wp2_with fail
    go_loopw [6, 7] (fun r t wr => ∃ k : Nat, k ≤ ts.length ∧ t = .int .i64 k ∧ Hid (OwnL wr w.heap.size r ((ts.map (·.2)).take k)) ∧ Hid ((ts.map (·.1)).take k = ns.take k) ∧ Hid (Below w.heap.size w wr)) (fun _ t _ => ts.length - (intOf t).toNat)
    case atStart => exact ⟨0, by omega, rfl, OwnL.nil _ _, by show _ = _; simp, Below.refl _ _⟩
    case round =>
      obtain ⟨k, hk, rfl, ho, hnk, hb⟩ := hrel
      obtain ⟨Ar, cr, rfl⟩ := ho.out.shape
      have hkl : ((ts.map (·.2)).take k).length = k := by rw [List.length_take, List.length_map]; omega
      rw [hkl] at ho ⊢
      replace hkl := Lib.hid hkl
      by_cases hlt : k < ts.length
      · obtain ⟨t, ht⟩ : ∃ t, ts[k]? = some t := ⟨ts[k], List.getElem?_eq_getElem hlt⟩
        obtain ⟨s, hs⟩ : ∃ s, ns[k]? = some s := ⟨ns[k]'(by have := hl2.out; omega), List.getElem?_eq_getElem (by have := hl2.out; omega)⟩
        obtain ⟨b, o, A', c', rfl, hbB, x0, x1, hd⟩ := tag_at (hu.out.below (hb.out.mono hB)) k t ht
        obtain ⟨b2, o2, rfl, hbB2, y0⟩ := name_at (hu2.out.below (hb.out.mono hB2)) k s hs
        obtain ⟨nm, da⟩ := t
        dsimp only at x0 x1 hd
        have l1 := strB_toList nm
        have l2 := strB_toList s
        have hn1 : Hid ((ts.map (·.1)).take (k + 1) = (ts.map (·.1)).take k ++ [nm]) := take_one _ _ _ (by simp [ht])
        have hn2 : Hid (ns.take (k + 1) = ns.take k ++ [s]) := take_one _ _ _ hs
        have hn3 : Hid ((ts.map (·.2)).take (k + 1) = (ts.map (·.2)).take k ++ [da]) := take_one _ _ _ (by simp [ht])
        have hne : Hid (nm ≠ s → ts.map (·.1) ≠ ns) := fun h e => by
          have h1 : (ts.map (·.1))[k]? = some nm := by simp [ht]
          rw [e, hs] at h1
          cases h1
          exact h rfl
        have i0 : (k : Int) < (ts.length : Int) := by omega
        have i1 : (k : Int) < (ns.length : Int) := by omega
        have hel := Lib.hid (Elt.of_old (v := .slice Ar k cr) hd (Nat.le_trans hB hb.out.size) (fun j hj => Nat.le_trans hB (ho.out.lt j hj).1))
        generalize (ts.map (·.2)).take k = acc at *
        generalize strB nm = S1 at *
        generalize strB s = S2 at *
        replace ht := Lib.hid ht
        replace hs := Lib.hid hs
        clear hd
        by_cases hq : nm = s
        · have hnk2 : Hid ((ts.map (·.1)).take (k + 1) = ns.take (k + 1)) := by show _ = _; rw [hn1.out, hn2.out, hnk.out, hq]
          subst hq
          go_wp2_with fail
          go_quiet (fail)
          have hdq : Below wr.heap.size wr (wr.drewN nq) := below_drewN (Below.refl _ _) nq
          have ho3 := ho.out.below hdq
          have x2 : (wr.drewN nq).cell? ⟨b, o + k * 2 + 1, none⟩ = some (.slice A' da.length c') := x1
          have hel3 := hel.out.below hdq
          have hb3 := bgo hb.out hdq
          clear x0 x1 y0
          generalize wr.drewN nq = w3 at *
          have hal := balloc w3 (.cells #[.slice A' da.length c'] 23)
          have hbox := Lib.hid (one_cell w3 (.slice A' da.length c') 23)
          have ho4 := Lib.hid (ho3.below hal)
          have hel4 := Lib.hid (hel3.below hal)
          have hb4 := Lib.hid (bgo hb3 hal)
          clear hdq ho3 hel3 hb3 hal
          go_wp2_with (at_builtin; refine wpList_appL (by rfl) _ _ 22 Tryz.underlying22 rfl w.heap.size _ acc rfl ho4.out _ _ _ da rfl hbox.out hel4.out (by have := hkl.out; omega) hb4.out.size ?_)
          intro v' w' hW2 hb5
          have hW2 := Lib.hid hW2
          have hb5 := Lib.hid (hb4.out.trans hb5)
          go_wp2_with fail
          go_roundw
          case rel => exact ⟨k + 1, by omega, by go_num, by rw [hn3.out]; exact hW2.out, hnk2, hb5⟩
          case measure => simp [intOf]; omega
        · have hq2 : (nm == s) = false := by simp [hq]
          replace hq := Lib.hid hq
          go_wp2_with fail
          go_quiet (fail)
          go_wp2_with fail
          go_returns
          exact .inr ⟨hne.out hq.out, rfl, below_drewN hb.out _⟩
      · have i0 : ¬ (k : Int) < (ts.length : Int) := by omega
        have hall : Hid (ts.map (·.1) = ns) := by
          show _ = _
          have h1 := hnk.out
          rw [List.take_of_length_le (by simp; omega), List.take_of_length_le (by have := hl2.out; omega)] at h1
          exact h1
        have hs9 : Hid ((ts.map (·.2)).take k = ts.map (·.2)) := List.take_of_length_le (by simp; omega)
        rw [hs9.out] at ho
        go_wp2_with fail
        go_returns
        exact .inl ⟨hall.out, _, rfl, ho.out, hb.out⟩
  · have hl1 : ¬ (ts.length : Int) = (ns.length : Int) := by omega
    have hne : Hid (ts.map (·.1) ≠ ns) := fun e => hl (by rw [← e]; simp)
    go_enter Tryz.func73, Tryz.ntmps73
    go_wp2_with fail
    go_returns
    exact .inr ⟨hne.out, rfl, Below.refl _ _⟩
set_option maxRecDepth 100000 in
set_option maxHeartbeats 2000000 in
theorem parts2_any (B B2 : Nat) (u u2 : Value) (ts : List (Bs × Bs)) (ns : List Bs) (w : World) (hu : SeesR w B u 2 ts.length (tagS ts)) (hu2 : SeesR w B2 u2 1 ns.length (nameS ns)) (hB : B ≤ w.heap.size) (hB2 : B2 ≤ w.heap.size) (hn : ts.length ≤ 1048576) :
    Calls Tryz.prog 90 #[u, u2] w (PartsP ts ns w) := by
  obtain ⟨A, c, rfl, -, -⟩ := hu.mk_
  obtain ⟨A2, c2, rfl, -, -⟩ := hu2.mk_
  replace hu := Lib.hid hu
  replace hu2 := Lib.hid hu2
  by_cases hl : ts.length = ns.length
  · have hl1 : (ts.length : Int) = (ns.length : Int) := by omega
    have hl2 := Lib.hid hl
    clear hl
    go_enter Tryz.func90, Tryz.ntmps90
    go_wp2_with fail
    go_loopw [6, 7, 8, 16] (fun r _ _ t wr => ∃ k : Nat, k ≤ ts.length ∧ t = .int .i64 k ∧ Hid (OwnL wr w.heap.size r ((ts.map (·.2)).take k)) ∧ Hid ((ts.map (·.1)).take k = ns.take k) ∧ Hid (Below w.heap.size w wr)) (fun _ _ _ t _ => ts.length - (intOf t).toNat)
    case atStart => exact ⟨0, by omega, rfl, OwnL.nil _ _, by show _ = _; simp, Below.refl _ _⟩
    case round =>
      obtain ⟨k, hk, rfl, ho, hnk, hb⟩ := hrel
      obtain ⟨Ar, cr, rfl⟩ := ho.out.shape
      have hkl : ((ts.map (·.2)).take k).length = k := by rw [List.length_take, List.length_map]; omega
      rw [hkl] at ho ⊢
      replace hkl := Lib.hid hkl
      by_cases hlt : k < ts.length
      · obtain ⟨t, ht⟩ : ∃ t, ts[k]? = some t := ⟨ts[k], List.getElem?_eq_getElem hlt⟩
        obtain ⟨s, hs⟩ : ∃ s, ns[k]? = some s := ⟨ns[k]'(by have := hl2.out; omega), List.getElem?_eq_getElem (by have := hl2.out; omega)⟩
        obtain ⟨b, o, A', c', rfl, hbB, x0, x1, hd⟩ := tag_at (hu.out.below (hb.out.mono hB)) k t ht
        obtain ⟨b2, o2, rfl, hbB2, y0⟩ := name_at (hu2.out.below (hb.out.mono hB2)) k s hs
        obtain ⟨nm, da⟩ := t
        dsimp only at x0 x1 hd
        have l1 := strB_toList nm
        have l2 := strB_toList s
        have hn1 : Hid ((ts.map (·.1)).take (k + 1) = (ts.map (·.1)).take k ++ [nm]) := take_one _ _ _ (by simp [ht])
        have hn2 : Hid (ns.take (k + 1) = ns.take k ++ [s]) := take_one _ _ _ hs
        have hn3 : Hid ((ts.map (·.2)).take (k + 1) = (ts.map (·.2)).take k ++ [da]) := take_one _ _ _ (by simp [ht])
        have hne : Hid (nm ≠ s → ts.map (·.1) ≠ ns) := fun h e => by
          have h1 : (ts.map (·.1))[k]? = some nm := by simp [ht]
          rw [e, hs] at h1
          cases h1
          exact h rfl
        have i0 : (k : Int) < (ts.length : Int) := by omega
        have i1 : (k : Int) < (ns.length : Int) := by omega
        have hel := Lib.hid (Elt.of_old (v := .slice Ar k cr) hd (Nat.le_trans hB hb.out.size) (fun j hj => Nat.le_trans hB (ho.out.lt j hj).1))
        generalize (ts.map (·.2)).take k = acc at *
        generalize strB nm = S1 at *
        generalize strB s = S2 at *
        replace ht := Lib.hid ht
        replace hs := Lib.hid hs
        clear hd
        have hbA := balloc wr (.cells #[.string S1, .slice A' da.length c'] 131)
        have hx := Box.new wr 131 [.string S1, .slice A' da.length c']
        change Box (wr.alloc (.cells #[.string S1, .slice A' da.length c'] 131)) _ _ _ at hx
        have y1 : (wr.alloc (.cells #[.string S1, .slice A' da.length c'] 131)).cell? ⟨b2, o2 + k, none⟩ = some (.string S2) := (hbA.cell (p := ⟨b2, o2 + k, none⟩) (Nat.lt_of_lt_of_le hbB2 (Nat.le_trans hB2 hb.out.size))).trans y0
        clear y0
        by_cases hq : nm = s
        · have hnk2 : Hid ((ts.map (·.1)).take (k + 1) = ns.take (k + 1)) := by show _ = _; rw [hn1.out, hn2.out, hnk.out, hq]
          subst hq
          go_wp2_with fail
          go_quiet (fail)
          have hdq : Below wr.heap.size wr ((wr.alloc (.cells #[.string S1, .slice A' da.length c'] 131)).drewN nq) := below_drewN hbA nq
          have ho3 := ho.out.below hdq
          have x2 : ((wr.alloc (.cells #[.string S1, .slice A' da.length c'] 131)).drewN nq).cell? ⟨wr.heap.size, 1, none⟩ = some (.slice A' da.length c') := hx.cell 1
          have hel3 := hel.out.below hdq
          have hb3 := bgo hb.out hdq
          clear x0 x1 y1 hx hbA
          generalize (wr.alloc (.cells #[.string S1, .slice A' da.length c'] 131)).drewN nq = w3 at *
          generalize wr.heap.size = g9 at *
          have hal := balloc w3 (.cells #[.slice A' da.length c'] 23)
          have hbox := Lib.hid (one_cell w3 (.slice A' da.length c') 23)
          have ho4 := Lib.hid (ho3.below hal)
          have hel4 := Lib.hid (hel3.below hal)
          have hb4 := Lib.hid (bgo hb3 hal)
          clear hdq ho3 hel3 hb3 hal
          go_wp2_with (at_builtin; refine wpList_appL (by rfl) _ _ 22 Tryz.underlying22 rfl w.heap.size _ acc rfl ho4.out _ _ _ da rfl hbox.out hel4.out (by have := hkl.out; omega) hb4.out.size ?_)
          intro v' w' hW2 hb5
          have hW2 := Lib.hid hW2
          have hb5 := Lib.hid (hb4.out.trans hb5)
          go_wp2_with fail
          go_roundw
          case rel => exact ⟨k + 1, by omega, by go_num, by rw [hn3.out]; exact hW2.out, hnk2, hb5⟩
          case measure => simp [intOf]; omega
        · have hq2 : (nm == s) = false := by simp [hq]
          replace hq := Lib.hid hq
          go_wp2_with fail
          go_quiet (fail)
          go_wp2_with fail
          go_returns
          exact .inr ⟨hne.out hq.out, rfl, below_drewN (bgo hb.out hbA) _⟩
      · have i0 : ¬ (k : Int) < (ts.length : Int) := by omega
        have hall : Hid (ts.map (·.1) = ns) := by
          show _ = _
          have h1 := hnk.out
          rw [List.take_of_length_le (by simp; omega), List.take_of_length_le (by have := hl2.out; omega)] at h1
          exact h1
        have hs9 : Hid ((ts.map (·.2)).take k = ts.map (·.2)) := List.take_of_length_le (by simp; omega)
        rw [hs9.out] at ho
        go_wp2_with fail
        go_returns
        exact .inl ⟨hall.out, _, rfl, ho.out, hb.out⟩
  · have hl1 : ¬ (ts.length : Int) = (ns.length : Int) := by omega
    have hne : Hid (ts.map (·.1) ≠ ns) := fun e => hl (by rw [← e]; simp)
    go_enter Tryz.func90, Tryz.ntmps90
    go_wp2_with fail
    go_returns
    exact .inr ⟨hne.out, rfl, Below.refl _ _⟩
end Go.Proofs.YtkefbjpdpcmpnaaGreat

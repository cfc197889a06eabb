/- Contract of (*batch.answer).content: the signed part of an answer taken apart. Conditions: the answer's block and the part are seen, at most 4096 bytes. -/
import Derived.Test.YtkefbjpdpcmpnaaGreatBParts
namespace Go.Proofs.YtkefbjpdpcmpnaaGreat
open Go.RowKit
set_option linter.unusedVariables false
attribute [local go_sem ↓] Go.wp_at_zero Go.wp_at_succ
/-- The data of tag k. -/
def datN (b : Bs) (k : Nat) : Bs := ((decT b).getD k ([], [])).2
def contOk (b : Bs) : Bool := decide ((decT b).map (·.1) = names2) && decide ((datN b 0).length = 32) && unOk (datN b 1)
def AnsAt (w : World) (g : Nat) (i n : Int) (pa si pt ro : Value) (lo hi : Int) : Prop := Box w g 102 [.int .i64 i, .int .i64 n, pa, si, pt, ro, .int .i64 lo, .int .i64 hi]
def ContP (b : Bs) (g : Nat) (i n : Int) (pa si pt : Value) (w : World) (e : Ending) (w' : World) : Prop :=
  e = .returned (.bool (contOk b)) ∧ w.grownBy w' (some g) ∧ (contOk b = true → ∃ r, AnsAt w' g i n pa si pt r (unLo (datN b 1)) (unHi (datN b 1)) ∧ SeesB w' w'.heap.size r (datN b 0))
theorem grown_of (w w' : World) (g : Nat) (h : Below w.heap.size w w') : w.grownBy w' (some g) := ⟨h.os, h.tape, h.output, h.size, fun k hk _ => h.block k hk⟩
theorem decT_len (b : Bs) : (decT b).length ≤ 16 := by
  unfold decT
  split
  · rename_i h
    by_cases h0 : 2048 < b.length
    · rw [dec_long b h0] at h; omega
    by_cases h1 : b.length < 4
    · rw [dec_short b h0 h1] at h; omega
    by_cases h2 : placeN b 0 < 1 ∨ 16 < placeN b 0
    · rw [dec_limit b h0 h1 h2] at h; omega
    simp [tagsN]; omega
  · simp
theorem noBL8 {a b c d e f g h : Value} (ha : NoB a) (hb : NoB b) (hc : NoB c) (hd : NoB d) (he : NoB e) (hf : NoB f) (hg : NoB g) (hh : NoB h) : NoByte [a, b, c, d, e, f, g, h] := by
  intro x hx n e
  simp only [List.mem_cons, List.not_mem_nil, or_false] at hx
  rcases hx with rfl | rfl | rfl | rfl | rfl | rfl | rfl | rfl
  · exact ha n e
  · exact hb n e
  · exact hc n e
  · exact hd n e
  · exact he n e
  · exact hf n e
  · exact hg n e
  · exact hh n e
theorem datN_len (b : Bs) (k : Nat) : (datN b k).length ≤ b.length := by
  unfold datN decT
  split
  · rw [List.getD_eq_getElem?_getD]
    by_cases hk : k < placeN b 0
    · rw [tagsN_get b _ k hk]
      simp [tagN]
      omega
    · rw [List.getElem?_eq_none (by simp [tagsN]; omega)]
      simp
  · simp
set_option maxRecDepth 100000 in
set_option maxHeartbeats 4000000 in
theorem content_any (b : Bs) (g : Nat) (i n : Int) (pa si pt ro : Value) (lo hi : Int) (w : World) (hx : AnsAt w g i n pa si pt ro lo hi) (hu : SeesB w w.heap.size pt b) (hl : b.length ≤ 1048576) (hpa : NoB pa) (hsi : NoB si) (hro : NoB ro)
    (h1 : pa.oneCell' = true) (h2 : si.oneCell' = true) (h3 : ro.oneCell' = true) :
    Calls Tryz.prog 140 #[.pointer (some ⟨g, 0, none⟩)] w (ContP b g i n pa si pt w) := by
  obtain ⟨A, c, rfl, -, -⟩ := hu.mk_
  have hdec := decode_any _ _ b w hu (Nat.le_refl _) hl
  unfold DecP at hdec
  generalize decC b = dc at hdec
  unfold AnsAt at hx
  unfold ContP AnsAt
  have x4 := hx.cell 4
  simp only [List.getElem?_cons_zero, List.getElem?_cons_succ] at x4
  have hcd : contOk b = (decide ((decT b).map (·.1) = names2) && decide ((datN b 0).length = 32) && unOk (datN b 1)) := rfl
  have hd0 : datN b 0 = ((decT b).map (·.2)).getD 0 [] := by unfold datN; cases decT b with | nil => rfl | cons x y => rfl
  have hd1 : datN b 1 = ((decT b).map (·.2)).getD 1 [] := by unfold datN; cases decT b with | nil => rfl | cons x y => cases y <;> rfl
  have hdl0 := datN_len b 0
  have hdl1 := datN_len b 1
  have hex := fun W v (h : SeesR W W.heap.size v 2 (decT b).length (tagS (decT b))) => 
    parts2_any W.heap.size _ v _ (decT b) names2 (W.alloc (.cells #[.string ⟨#[82, 79, 79, 84]⟩, .string ⟨#[83, 80, 65, 78]⟩] 9)) (h.below (balloc W _)) (names2_lit W) (balloc W _).size (by rw [World.size_alloc]; exact Nat.le_refl _) (Nat.le_trans (decT_len b) (by omega))
  generalize datN b 0 = d0 at *
  generalize datN b 1 = d1 at *
  replace hcd := Lib.hid hcd
  replace hd0 := Lib.hid hd0
  replace hd1 := Lib.hid hd1
  replace hex := Lib.hid hex
  generalize decT b = ts at *
  replace hdec := Lib.hid hdec
  go_enter Tryz.func140, Tryz.ntmps140
  go_wp2_with fail
  refine hdec.out.mono ?_
  rintro e w1 ⟨v1, rfl, s1, hb1⟩
  dsimp only
  go_wp2_with fail
  refine (hex.out w1 v1 s1).mono ?_
  rintro e w3 hP
  have hbA := bgo hb1 (balloc w1 (.cells #[.string ⟨#[82, 79, 79, 84]⟩, .string ⟨#[83, 80, 65, 78]⟩] 9))
  clear hex hdec s1
  rcases hP with ⟨hnm, v3, rfl, ho, hb3⟩ | ⟨hnm, rfl, hb3⟩
  · have hgw := hx.lt
    have hown := (ho.mono hbA.size).lt
    replace hbA := bgo hbA hb3
    have hL2 : (ts.map (·.2)).length = 2 := by
      have := congrArg List.length hnm
      simpa [names2] using this
    have hsl := ho.sees
    obtain ⟨A3, c3, rfl, -, -⟩ := hsl.mk_
    obtain ⟨b6, o6, rfl, hb6, hcell⟩ := hsl.at_ (by omega)
    obtain ⟨Aa, ca, y0, -, -, sd0⟩ := hcell 0 (by omega)
    obtain ⟨Ab, cb, y1, -, -, sd1⟩ := hcell 1 (by omega)
    rw [← hd0.out] at y0 sd0
    rw [← hd1.out] at y1 sd1
    replace y0 : w3.cell? ⟨b6, o6, none⟩ = some (.slice Aa d0.length ca) := y0
    have hb6g : b6 ≠ g := by have := (hown b6 rfl).1; omega
    replace hx := hx.below hbA
    clear hcell hsl ho hown
    rw [hL2]
    by_cases m0 : d0.length = 32
    · have i0 : (d0.length : Int) = 32 := by omega
      have hno := noBL8 (NoB.i i) (NoB.i n) hpa hsi (NoB.s A b.length c) hro (NoB.i lo) (NoB.i hi)
      have k0 := sd0.poke (j := 5) (v' := .slice Aa d0.length ca) hx hno
      have k1 := sd1.poke (j := 5) (v' := .slice Aa d0.length ca) hx hno
      have x5 := hx.cell 5
      have f5 := hx.frozen 5
      simp only [List.getElem?_cons_zero, List.getElem?_cons_succ] at x5
      have z1 : (w3.setCell ⟨g, 5, none⟩ (.slice Aa d0.length ca)).cell? ⟨b6, o6 + 1, none⟩ = some (.slice Ab d1.length cb) := (World.cell?_setCell_other _ _ _ _ (fun e => hb6g (by injection e with e; exact e.symm))).trans y1
      have hx6 := hx.set 5 (.slice Aa d0.length ca)
      simp only [List.set_cons_zero, List.set_cons_succ] at hx6
      have hg5 := setCell_grown w3 g 5 (.slice Aa d0.length ca)
      have hs5 : (w3.setCell ⟨g, 5, none⟩ (.slice Aa d0.length ca)).heap.size = w3.heap.size := by simp [World.setCell]
      have hun := unspan_any _ _ d1 _ k1 (by rw [hs5]; exact Nat.le_refl _)
      unfold UnPost at hun
      have hg1 := gbelow (g := g) hbA
      replace hx := Lib.hid hx
      replace hg1 := Lib.hid (ggo hg1 hg5)
      replace hun := Lib.hid hun
      replace m0 := Lib.hid m0
      clear sd0 sd1 hg5 hbA hb1 hb3 hu
      go_wp2_with fail
      refine hun.out.mono ?_
      rintro e w4 ⟨rfl, hb4⟩
      have hx7 := hx6.below hb4
      have x6 := hx7.cell 6
      have x7 := hx7.cell 7
      have f6 := hx7.frozen 6
      have f7 := hx7.frozen 7
      simp only [List.getElem?_cons_zero, List.getElem?_cons_succ] at x6 x7
      have hg4 := ggo hg1.out (gbelow (g := g) hb4)
      have k4 := (k0.more (by rw [hs5]; exact Nat.le_refl _)).below hb4
      dsimp only
      cases hok : unOk d1 with
      | true =>
        have hc : Hid (contOk b = true) := by show _ = _; rw [hcd.out]; simp [hnm, m0.out, hok]
        have e1 : unA d1 = unLo d1 := by simp [unA, hok]
        have e2 : unB d1 = unHi d1 := by simp [unB, hok]
        have e3 : unC d1 = 0 := by simp [unC, hok]
        rw [e1, e2, e3]
        generalize hl1 : unLo d1 = l1 at *
        generalize hl2 : unHi d1 = l2 at *
        replace hl1 := Lib.hid hl1
        replace hl2 := Lib.hid hl2
        have hw6 : ∀ x y : Value, w4.heap.size ≤ ((w4.setCell ⟨g, 6, none⟩ x).setCell ⟨g, 7, none⟩ y).heap.size := fun x y => by simp [World.setCell]
        replace hok := Lib.hid hok
        replace hnm := Lib.hid hnm
        have hx8 := hx7.set 6 (.int .i64 l1)
        have hx9 := hx8.set 7 (.int .i64 l2)
        simp only [List.set_cons_zero, List.set_cons_succ] at hx8 hx9
        have hno4 := noBL8 (NoB.i i) (NoB.i n) hpa hsi (NoB.s A b.length c) (NoB.s Aa d0.length ca) (NoB.i lo) (NoB.i hi)
        have hno5 := noBL8 (NoB.i i) (NoB.i n) hpa hsi (NoB.s A b.length c) (NoB.s Aa d0.length ca) (NoB.i l1) (NoB.i hi)
        have k5 := (k4.poke (j := 6) (v' := .int .i64 l1) hx7 hno4).poke (j := 7) (v' := .int .i64 l2) hx8 hno5
        have hg9 := ggo (ggo hg4 (setCell_grown w4 g 6 (.int .i64 l1))) (setCell_grown _ g 7 (.int .i64 l2))
        replace hx9 := Lib.hid hx9
        replace k5 := Lib.hid k5
        replace hg9 := Lib.hid hg9
        clear hx8 hx6 k4 k0 k1 hg4
        go_wp2_with fail
        go_ret
        exact ⟨by rw [hc.out]; rfl, hg9.out, fun _ => ⟨.slice Aa d0.length ca, by rw [hl1.out, hl2.out]; exact hx9.out, k5.out.more (Nat.le_trans hb4.size (hw6 _ _))⟩⟩
      | false =>
        have hc : Hid (contOk b = false) := by show _ = _; rw [hcd.out]; simp [hnm, m0.out, hok]
        have e1 : unA d1 = 0 := by simp [unA, hok]
        have e2 : unB d1 = 0 := by simp [unB, hok]
        have e3 : unC d1 = 3 := by simp [unC, hok]
        rw [e1, e2, e3]
        replace hok := Lib.hid hok
        replace hnm := Lib.hid hnm
        have hg9 := Lib.hid (ggo (ggo hg4 (setCell_grown w4 g 6 (.int .i64 0))) (setCell_grown _ g 7 (.int .i64 0)))
        clear hg4
        go_wp2_with fail
        go_ret
        exact ⟨by rw [hc.out]; rfl, hg9.out, fun h => by rw [hc.out] at h; exact absurd h (by simp)⟩
    · have i0 : ¬ (d0.length : Int) = 32 := by omega
      have hc : Hid (contOk b = false) := by show _ = _; rw [hcd.out]; simp [m0]
      replace m0 := Lib.hid m0
      go_wp2_with fail
      go_ret
      exact ⟨by rw [hc.out]; rfl, grown_of _ _ _ hbA, fun h => by rw [hc.out] at h; exact absurd h (by simp)⟩
  · have hc : Hid (contOk b = false) := by show _ = _; rw [hcd.out]; simp [hnm]
    go_wp2_with fail
    go_ret
    exact ⟨by rw [hc.out]; rfl, grown_of _ _ _ (bgo hbA hb3), fun h => by rw [hc.out] at h; exact absurd h (by simp)⟩
end Go.Proofs.YtkefbjpdpcmpnaaGreat

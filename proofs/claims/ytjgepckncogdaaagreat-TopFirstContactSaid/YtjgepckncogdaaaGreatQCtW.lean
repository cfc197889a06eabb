/- What a law leans on beyond the base: contracts, plain functions, walks. Conditions: those of each theorem. -/
import Derived.Test.YtjgepckncogdaaaGreatQCVerA
import Derived.Test.YtjgepckncogdaaaGreatQCtC
set_option linter.unusedVariables false
set_option linter.unusedSimpArgs false
namespace Go.Proofs.YtjgepckncogdaaaGreat
open Go Go.RowKit
set_option linter.unusedVariables false
set_option linter.unusedSimpArgs false
attribute [local go_sem ↓] Go.wp_at_zero Go.wp_at_succ
def metL (ws : List Sp) : Nat → Bool × (Int × Int)
 | 0 => (true, (-1152921504606846976, 1152921504606846976))
 | k + 1 => if (metL ws k).1 = true then (meB (metL ws k).2.1 (metL ws k).2.2 (ws.getD k (0, 0)).1 (ws.getD k (0, 0)).2, meV (metL ws k).2.1 (metL ws k).2.2 (ws.getD k (0, 0)).1 (ws.getD k (0, 0)).2) else metL ws k
theorem metL_next {ws : List Sp} {k : Nat} (h : (metL ws k).1 = true) : metL ws (k + 1) = (meB (metL ws k).2.1 (metL ws k).2.2 (ws.getD k (0, 0)).1 (ws.getD k (0, 0)).2, meV (metL ws k).2.1 (metL ws k).2.2 (ws.getD k (0, 0)).1 (ws.getD k (0, 0)).2) := by
 rw [metL, if_pos h]
theorem metL_stop {ws : List Sp} {i : Nat} (h : (metL ws i).1 = false) : ∀ m, metL ws (i + m) = metL ws i := by
 intro m
 induction m with
 | zero => rfl
 | succ m ih => rw [← Nat.add_assoc, metL, ih, if_neg (by rw [h]; simp)]
def winL (cs : List CertG) : List Sp := cs.map fun c => (c.2.2.1, c.2.2.2.1)
theorem winL_get (cs : List CertG) (k : Nat) : (winL cs).getD k (0, 0) = ((certT cs k).2.2.1, (certT cs k).2.2.2.1) := by
 unfold winL certT
 rw [List.getD_eq_getElem?_getD, List.getD_eq_getElem?_getD, List.getElem?_map]
 cases cs[k]? <;> rfl
theorem metK_L (cs : List CertG) : ∀ k, metK cs k = metL (winL cs) k := by
 intro k
 induction k with
 | zero => rfl
 | succ k ih => rw [metK, metL, ih, winL_get]
theorem common_step {w wr W : World} {g2 g4 : Nat} {T : TypeId} {xs : List Value} (hb : Below w.heap.size w wr) (hW : Below wr.heap.size wr W) (hg : w.heap.size ≤ g4 ∧ g4 ≠ g2) (a b : Value) (hx2 : Box wr g2 T xs) :
 Box ((W.setCell ⟨g4, 0, none⟩ a).setCell ⟨g4, 1, none⟩ b) g2 T xs ∧ Below w.heap.size w ((W.setCell ⟨g4, 0, none⟩ a).setCell ⟨g4, 1, none⟩ b) :=
 ⟨((hx2.below hW).other (fun e => hg.2 e.symm)).other (fun e => hg.2 e.symm), below_set2 (bgo hb hW) hg.1 a b⟩
def CommonP (ws : List Sp) (w : World) (e : Ending) (w' : World) : Prop :=
 e = .returned (.tuple #[.agg #[.int .i64 (if (metL ws ws.length).1 = true then (metL ws ws.length).2.1 else 0), .int .i64 (if (metL ws ws.length).1 = true then (metL ws ws.length).2.2 else 0)], .bool (metL ws ws.length).1]) ∧ Below w.heap.size w w'
theorem common_no {ws : List Sp} {w w' : World} (h : (metL ws ws.length).1 = false) (hb : Below w.heap.size w w') : CommonP ws w (.returned (.tuple #[.agg #[.int .i64 0, .int .i64 0], .bool false])) w' := by
 unfold CommonP; rw [h]; exact ⟨rfl, hb⟩
theorem common_yes {ws : List Sp} {w w' : World} {lo hi : Int} (h : metL ws ws.length = (true, (lo, hi))) (hb : Below w.heap.size w w') : CommonP ws w (.returned (.tuple #[.agg #[.int .i64 lo, .int .i64 hi], .bool true])) w' := by
 unfold CommonP; rw [h]; exact ⟨rfl, hb⟩
set_option maxRecDepth 100000 in
set_option maxHeartbeats 4000000 in
theorem common_any (B : Nat) (u : Value) (ws : List Sp) (w : World) (hu : SeesS w B u ws) (hB : B ≤ w.heap.size) (h0 : 0 < ws.length) (hn : ws.length ≤ 64) :
 Calls Tryz.prog 102 #[u] w (CommonP ws w) := by
 obtain ⟨A, c, rfl, hc1, hc2⟩ := hu.mk_
 obtain ⟨b0, o0, rfl, hb0, hcell⟩ := hu.at_ h0
 have i9 : (0 : Int) < (ws.length : Int) := by omega
 have hal := bgo (balloc w (.cells #[.int .i64 0, .int .i64 0] 24)) (balloc _ (.cells #[.int .i64 (-1152921504606846976), .int .i64 1152921504606846976] 24))
 have x2 := (Box.new w 24 [.int .i64 0, .int .i64 0]).below (balloc _ (.cells #[.int .i64 (-1152921504606846976), .int .i64 1152921504606846976] 24))
 have x4 := Box.new (w.alloc (.cells #[.int .i64 0, .int .i64 0] 24)) 24 [.int .i64 (-1152921504606846976), .int .i64 1152921504606846976]
 rw [World.size_alloc] at x4
 change Box ((w.alloc (.cells #[.int .i64 0, .int .i64 0] 24)).alloc (.cells #[.int .i64 (-1152921504606846976), .int .i64 1152921504606846976] 24)) _ _ _ at x2 x4
 have hg4 : Hid (w.heap.size ≤ w.heap.size + 1 ∧ w.heap.size + 1 ≠ w.heap.size) := by show _ ∧ _; omega
 replace hcell := Lib.hid hcell
 clear hu
 go_enter Tryz.func102, Tryz.ntmps102
 go_upto_region 2 with (fail)
 generalize (w.alloc (.cells #[.int .i64 0, .int .i64 0] 24)).alloc (.cells #[.int .i64 (-1152921504606846976), .int .i64 1152921504606846976] 24) = W0 at *
 replace hal := Lib.hid hal
 generalize hgg4 : w.heap.size + 1 = g4 at x4 hg4 ⊢
 replace hgg4 := Lib.hid hgg4
 have hgg2 : Hid (∃ x, x = w.heap.size) := ⟨_, rfl⟩
 obtain ⟨g2, hg2⟩ : ∃ x, x = w.heap.size := ⟨_, rfl⟩
 rw [← hg2] at x2 ⊢
 have hg4' : Hid (w.heap.size ≤ g4 ∧ g4 ≠ g2) := by rw [hg2]; exact hg4
 replace hg2 := Lib.hid hg2
 replace x2 := Lib.hid x2
 replace x4 := Lib.hid x4
 clear hg4 hgg2
 rename Hid (w.heap.size ≤ g4 ∧ g4 ≠ g2) => hg4
 go_wp2_with fail
 go_loopw [5, 6] (fun s t wr => ∃ i : Nat, i ≤ ws.length ∧ t = .int .i64 i ∧ s = .bool (metL ws i).1 ∧ Hid (Box wr g4 24 [.int .i64 (metL ws i).2.1, .int .i64 (metL ws i).2.2]) ∧ Hid (Box wr g2 24 [.int .i64 0, .int .i64 0]) ∧ Hid (Below w.heap.size w wr)) (fun _ t _ => ws.length - (intOf t).toNat)
 case atStart => exact ⟨0, by omega, rfl, rfl, x4, x2, hal⟩
 case round =>
  obtain ⟨i, hi, rfl, rfl, x4, hx2, hb⟩ := hrel
  cases hm : (metL ws i).1 with
  | false =>
    have hf : Hid ((metL ws ws.length).1 = false) := by
     show _ = _
     have := metL_stop hm (ws.length - i)
     rw [show i + (ws.length - i) = ws.length by omega] at this
     rw [this, hm]
    have hdec : (i : Int) < (ws.length : Int) ∨ ¬ (i : Int) < (ws.length : Int) := Decidable.em _
    replace hm := Lib.hid hm
    obtain ⟨k0, k1, f0, f1⟩ := box2_cells hx2.out
    have hx7 := Lib.hid (box_set2 hx2.out (.int .i64 0) (.int .i64 0))
    have hb7 := Lib.hid (below_set2 (g := g2) hb.out (Nat.le_of_eq hg2.out.symm) (.int .i64 0) (.int .i64 0))
    rcases hdec with i0 | i0
    all_goals
     go_wp2_with fail
     clear k0 k1 f0 f1
     obtain ⟨k0, k1⟩ := boxT2 hx7.out
     refine bodyPost_ret (v := .tuple #[.agg #[.int .i64 0, .int .i64 0], .bool false]) (by simp [results, Tryz.results102, go_sem, k0, k1]) rfl ?_
     exact common_no hf.out hb7.out
  | true =>
    by_cases hlt : i < ws.length
    · have i0 : (i : Int) < (ws.length : Int) := by omega
      have j0 : (0 : Int) ≤ (i : Int) := by omega
      have hnx := Lib.hid (metL_next hm)
      have hget : ws[i]? = some (ws.getD i (0, 0)) := by rw [List.getD_eq_getElem?_getD, List.getElem?_eq_getElem hlt]; rfl
      obtain ⟨z0, z1⟩ := hcell.out i _ hget
      have hrow : Hid (∀ W : World, Below w.heap.size w W → W.cell? ⟨b0, o0 + i * 2, none⟩ = some (.int .i64 (ws.getD i (0, 0)).1) ∧ W.cell? ⟨b0, o0 + i * 2 + 1, none⟩ = some (.int .i64 (ws.getD i (0, 0)).2)) := fun W hW => ⟨(hW.cell (p := ⟨b0, o0 + i * 2, none⟩) (show b0 < w.heap.size by omega)).trans z0, (hW.cell (p := ⟨b0, o0 + i * 2 + 1, none⟩) (show b0 < w.heap.size by omega)).trans z1⟩
      clear z0 z1 hget
      generalize (metL ws i).2.1 = a at *
      generalize (metL ws i).2.2 = b at *
      generalize (ws.getD i (0, 0)).1 = c' at *
      generalize (ws.getD i (0, 0)).2 = d at *
      replace hm := Lib.hid hm
      have K : Hid (∀ W : World, Below wr.heap.size wr W → W.cell? ⟨g4, 0, none⟩ = some (.int .i64 a) ∧ W.cell? ⟨g4, 1, none⟩ = some (.int .i64 b) ∧ W.cell? ⟨b0, o0 + i * 2, none⟩ = some (.int .i64 c') ∧ W.cell? ⟨b0, o0 + i * 2 + 1, none⟩ = some (.int .i64 d)) := fun W hW => ⟨(x4.out.below hW).cell 0, (x4.out.below hW).cell 1, hrow.out W (bgo hb.out hW)⟩
      have hbC := Lib.hid (bdrew wr)
      clear hrow
      go_wp2_with fail
      refine wp_region_J (fun W' : World => W'.cell? ⟨g4, 0, none⟩ = some (.int .i64 a) ∧ W'.cell? ⟨g4, 1, none⟩ = some (.int .i64 b) ∧ W'.cell? ⟨b0, o0 + i * 2, none⟩ = some (.int .i64 c') ∧ W'.cell? ⟨b0, o0 + i * 2 + 1, none⟩ = some (.int .i64 d)) 9 (by kernel_rfl) ?_ (fun hHeld => ?_)
      · (try dsimp only); (first | exact K.out _ hbC.out | exact K.out _ (bdrew _))
      refine wpAnyJ_take (i := 0) (v := ?_) rfl (by kernel_rfl) (by kernel_rfl) (by kernel_rfl) (fun _ _ _ h => h) (by rfl) rfl (by kernel_rfl) (by kernel_rfl) (Or.inl ⟨by rfl, ?_⟩) (by assumption) ?_
      rotate_left 1
      · intro w hSw; (try dsimp only at hSw); go_simp <;> (try with_reducible rfl)
      try simp only [Act.put, List.getElem_toArray, List.getElem_cons_succ, List.getElem_cons_zero, List.setIfInBounds_toArray, List.set_cons_zero, List.set_cons_succ]
      refine wpAnyJ_take0 (i := 1) (v := ?_) rfl (by kernel_rfl) (by kernel_rfl) (by kernel_rfl) (fun _ _ _ h => h) (by rfl) (Or.inl ⟨by rfl, ?_⟩) (by assumption) ?_
      rotate_left 1
      · intro w hSw; (try dsimp only at hSw); go_simp <;> (try with_reducible rfl)
      try simp only [Act.put, List.getElem_toArray, List.getElem_cons_succ, List.getElem_cons_zero, List.setIfInBounds_toArray, List.set_cons_zero, List.set_cons_succ]
      refine wpAnyJ_take0 (i := 2) (v := ?_) rfl (by kernel_rfl) (by kernel_rfl) (by kernel_rfl) (fun _ _ _ h => h) (by rfl) (Or.inl ⟨by rfl, ?_⟩) (by assumption) ?_
      rotate_left 1
      · intro w hSw; (try dsimp only at hSw); go_simp <;> (try with_reducible rfl)
      try simp only [Act.put, List.getElem_toArray, List.getElem_cons_succ, List.getElem_cons_zero, List.setIfInBounds_toArray, List.set_cons_zero, List.set_cons_succ]
      refine wpAnyJ_take0 (i := 3) (v := ?_) rfl (by kernel_rfl) (by kernel_rfl) (by kernel_rfl) (fun _ _ _ h => h) (by rfl) (Or.inl ⟨by rfl, ?_⟩) (by assumption) ?_
      rotate_left 1
      · intro w hSw; (try dsimp only at hSw); go_simp <;> (try with_reducible rfl)
      try simp only [Act.put, List.getElem_toArray, List.getElem_cons_succ, List.getElem_cons_zero, List.setIfInBounds_toArray, List.set_cons_zero, List.set_cons_succ]
      refine wpAnyJ_take (i := 4) (v := ?_) rfl (by kernel_rfl) (by kernel_rfl) (by kernel_rfl) (fun _ _ _ h => h) (by rfl) rfl (by kernel_rfl) (by kernel_rfl) (Or.inl ⟨by rfl, ?_⟩) (by assumption) ?_
      rotate_left 1
      · intro w hSw; (try dsimp only at hSw); go_simp <;> (try with_reducible rfl)
      try simp only [Act.put, List.getElem_toArray, List.getElem_cons_succ, List.getElem_cons_zero, List.setIfInBounds_toArray, List.set_cons_zero, List.set_cons_succ]
      refine wpAnyJ_ready (rs := [5]) (by kernel_rfl) (by simp) ?_
      refine AllReadyJ.cons (o := _) rfl (fun Kq hKq => ?_) ?_
      · go_simp
        go_at_call 175
        refine (meet_any a b c' d _).mono ?_
        rintro e X ⟨rfl, hal⟩
        have hx4 := (x4.out.below (bdrew wr)).below hal
        obtain ⟨k0, k1, f0, f1⟩ := box2_cells hx4
        replace hbC := Lib.hid (bgo hbC.out hal)
        replace hx4 := Lib.hid hx4
        generalize hm1 : (meV a b c' d).1 = m1 at *
        generalize hm2 : (meV a b c' d).2 = m2 at *
        generalize hm3 : meB a b c' d = m3 at *
        go_wp2_with fail
        refine hKq.out _ _ ?_ (fun hHeld => ?_)
        · intro _; (try dsimp only); (first | exact K.out _ hbC.out | exact K.out _ (bdrew _))
        clear hKq Kq
        try simp only [Act.put, List.getElem_toArray, List.getElem_cons_succ, List.getElem_cons_zero, List.setIfInBounds_toArray, List.set_cons_zero, List.set_cons_succ]
        refine wpAnyJ_take0 (i := 6) (v := ?_) rfl (by kernel_rfl) (by kernel_rfl) (by kernel_rfl) (fun _ _ _ h => h) (by rfl) (Or.inl ⟨by rfl, ?_⟩) (by assumption) ?_
        rotate_left 1
        · intro w hSw; (try dsimp only at hSw); go_simp <;> (try with_reducible rfl)
        try simp only [Act.put, List.getElem_toArray, List.getElem_cons_succ, List.getElem_cons_zero, List.setIfInBounds_toArray, List.set_cons_zero, List.set_cons_succ]
        refine wpAnyJ_take0 (i := 7) (v := ?_) rfl (by kernel_rfl) (by kernel_rfl) (by kernel_rfl) (fun _ _ _ h => h) (by rfl) (Or.inl ⟨by rfl, ?_⟩) (by assumption) ?_
        rotate_left 1
        · intro w hSw; (try dsimp only at hSw); go_simp <;> (try with_reducible rfl)
        try simp only [Act.put, List.getElem_toArray, List.getElem_cons_succ, List.getElem_cons_zero, List.setIfInBounds_toArray, List.set_cons_zero, List.set_cons_succ]
        refine wpAnyJ_take0 (i := 8) (v := ?_) rfl (by kernel_rfl) (by kernel_rfl) (by kernel_rfl) (fun _ _ _ h => h) (by rfl) (Or.inl ⟨by rfl, ?_⟩) (by assumption) ?_
        rotate_left 1
        · intro w hSw; (try dsimp only at hSw); go_simp <;> (try with_reducible rfl)
        try simp only [Act.put, List.getElem_toArray, List.getElem_cons_succ, List.getElem_cons_zero, List.setIfInBounds_toArray, List.set_cons_zero, List.set_cons_succ]
        refine wpAnyJ_ready (rs := [9]) (by kernel_rfl) (by simp) ?_
        refine AllReadyJ.cons (o := _) rfl (fun Kq hKq => ?_) ?_
        · go_simp
          refine hKq.out _ _ ?_ (fun hHeld => ?_)
          · intro hl; exact absurd hl (by decide)
          clear hKq Kq
          try simp only [Act.put, List.getElem_toArray, List.getElem_cons_succ, List.getElem_cons_zero, List.setIfInBounds_toArray, List.set_cons_zero, List.set_cons_succ]
          refine wpAnyJ_take0 (i := 10) (v := ?_) rfl (by kernel_rfl) (by kernel_rfl) (by kernel_rfl) (fun _ _ _ h => h) (by rfl) (Or.inl ⟨by rfl, ?_⟩) (by assumption) ?_
          rotate_left 1
          · intro w hSw; (try dsimp only at hSw); go_simp <;> (try with_reducible rfl)
          try simp only [Act.put, List.getElem_toArray, List.getElem_cons_succ, List.getElem_cons_zero, List.setIfInBounds_toArray, List.set_cons_zero, List.set_cons_succ]
          refine wpAnyJ_done (by kernel_rfl) ?_ _
          have hx5 := Lib.hid (box_set2 hx4.out (.int .i64 m1) (.int .i64 m2))
          have hb5 := Lib.hid (common_step hb.out hbC.out hg4.out (.int .i64 m1) (.int .i64 m2) hx2.out)
          clear k0 k1 f0 f1 hHeld
          go_wp2_with fail
          go_roundw
          case rel => exact ⟨i + 1, by omega, by go_num, by show _ = _; rw [hnx.out], by show Box _ _ _ _; rw [hnx.out]; show Box _ _ _ [.int .i64 (meV a b c' d).1, .int .i64 (meV a b c' d).2]; rw [hm1, hm2]; exact hx5.out, hb5.out.1, hb5.out.2⟩
          case measure => simp [intOf]; omega
        exact AllReadyJ.nil
      exact AllReadyJ.nil
    · obtain rfl : i = ws.length := by omega
      have i0 : ¬ (ws.length : Int) < (ws.length : Int) := by omega
      obtain ⟨lo, hi', hlh⟩ : ∃ lo hi', metL ws ws.length = (true, (lo, hi')) := ⟨_, _, Prod.ext hm rfl⟩
      rw [hlh] at x4
      replace hm := Lib.hid hm
      obtain ⟨k0, k1, f0, f1⟩ := box2_cells hx2.out
      obtain ⟨y0, y1⟩ := boxT2 x4.out
      have hx7 := Lib.hid (box_set2 hx2.out (.int .i64 lo) (.int .i64 hi'))
      have hb7 := Lib.hid (below_set2 (g := g2) hb.out (Nat.le_of_eq hg2.out.symm) (.int .i64 lo) (.int .i64 hi'))
      replace hlh := Lib.hid hlh
      go_wp2_with fail
      clear k0 k1 f0 f1 y0 y1
      obtain ⟨k0, k1⟩ := boxT2 hx7.out
      refine bodyPost_ret (v := .tuple #[.agg #[.int .i64 lo, .int .i64 hi'], .bool true]) (by simp [results, Tryz.results102, go_sem, k0, k1]) rfl ?_
      exact common_yes hlh.out hb7.out
theorem chkK_stop {r : Bs} {cs : List CertG} {k : Nat} (h : chkK r cs k ≠ 0) : ∀ m, chkK r cs (k + m) = chkK r cs k := by
 intro m
 induction m with
 | zero => rfl
 | succ m ih => rw [← Nat.add_assoc, chkK, ih, if_neg h]
theorem chkK_next {r : Bs} {cs : List CertG} {k : Nat} (h : chkK r cs k = 0) : chkK r cs (k + 1) = cchkC (parG r cs k) (certT cs k) := by
 rw [chkK, if_pos h]
theorem win_len {r : Bs} {cs : List CertG} (h : ¬ (1 ≤ cs.length ∧ cs.length ≤ 4)) : winC r cs = 8 := by rw [winC, if_neg h]
theorem win_chk {r : Bs} {cs : List CertG} {k : Nat} {x : Int} (h : 1 ≤ cs.length ∧ cs.length ≤ 4) (hk : k < cs.length) (h0 : chkK r cs k = 0) (hx : cchkC (parG r cs k) (certT cs k) = x) (hne : x ≠ 0) : winC r cs = x := by
 have h1 : chkK r cs (k + 1) = x := (chkK_next h0).trans hx
 have h2 := chkK_stop (show chkK r cs (k + 1) ≠ 0 by rw [h1]; exact hne) (cs.length - (k + 1))
 rw [show k + 1 + (cs.length - (k + 1)) = cs.length by omega, h1] at h2
 rw [winC, if_pos h, h2, if_neg hne]
theorem win_no {r : Bs} {cs : List CertG} (h : 1 ≤ cs.length ∧ cs.length ≤ 4) (h0 : chkK r cs cs.length = 0) (h1 : (metL (winL cs) cs.length).1 = false) : winC r cs = 25 := by
 rw [winC, if_pos h, if_pos h0, metK_L, h1]
 rfl
theorem win_yes {r : Bs} {cs : List CertG} (h : 1 ≤ cs.length ∧ cs.length ≤ 4) (h0 : chkK r cs cs.length = 0) (h1 : (metL (winL cs) cs.length).1 = true) : winC r cs = 0 ∧ winV r cs = (metL (winL cs) cs.length).2 := by
 have hc : winC r cs = 0 := by rw [winC, if_pos h, if_pos h0, metK_L, h1]; rfl
 exact ⟨hc, by rw [winV, if_pos hc, metK_L]⟩
def WinP (r : Bs) (cs : List CertG) (w : World) (e : Ending) (w' : World) : Prop :=
 e = .returned (.tuple #[.agg #[.int .i64 (winV r cs).1, .int .i64 (winV r cs).2], .int .i64 (winC r cs)]) ∧ Below w.heap.size w w'
theorem winP_bad {r : Bs} {cs : List CertG} {x : Int} (h : winC r cs = x) (hx : x ≠ 0) {w w' : World} (hb : Below w.heap.size w w') : WinP r cs w (.returned (.tuple #[.agg #[.int .i64 0, .int .i64 0], .int .i64 x])) w' := by
 unfold WinP winV
 rw [h, if_neg hx]
 exact ⟨rfl, hb⟩
theorem winP_ok {r : Bs} {cs : List CertG} {lo hi : Int} (h : winC r cs = 0 ∧ winV r cs = (metL (winL cs) cs.length).2) (h2 : (metL (winL cs) cs.length).2 = (lo, hi)) {w w' : World} (hb : Below w.heap.size w w') : WinP r cs w (.returned (.tuple #[.agg #[.int .i64 lo, .int .i64 hi], .int .i64 0])) w' := by
 unfold WinP
 rw [h.1, h.2, h2]
 exact ⟨rfl, hb⟩
theorem winL_len (cs : List CertG) : (winL cs).length = cs.length := by unfold winL; rw [List.length_map]
theorem winL_next (cs : List CertG) (k : Nat) (h : k < cs.length) : (winL cs).take (k + 1) = (winL cs).take k ++ ((certT cs k).2.2.1, (certT cs k).2.2.2.1) :: [] := by
 refine take_one _ k _ ?_
 unfold winL
 rw [List.getElem?_map, certT_get cs k h]
 rfl
theorem span_elts {w : World} {v : Value} (f t : Int) : ∀ (k : Nat) (s : Spec), [Spec.val (.int .i64 f), .val (.int .i64 t)][k]? = some s → ∃ y, [Value.int .i64 f, .int .i64 t][k]? = some y ∧ EltS w v y s := by
 intro k s h
 match k, h with
 | 0, h => cases h; exact ⟨_, rfl, rfl, rfl⟩
 | 1, h => cases h; exact ⟨_, rfl, rfl, rfl⟩
theorem spans_row {w : World} {B n : Nat} {v : Value} {ws : List Sp} (h : SeesR w B v 2 n (spanS ws)) (hn : ws.length = n) : SeesS w B v ws := by
 subst hn
 exact spanC2_sees h
set_option maxRecDepth 100000 in
set_option maxHeartbeats 4000000 in
theorem cwin_any (B : Nat) (u u2 : Value) (r : Bs) (cs : List CertG) (w : World) (hu : SeesB w B u r) (hu2 : SeesR w B u2 5 cs.length (certS cs)) (hB : B ≤ w.heap.size) (hl : ∀ c ∈ cs, c.2.2.2.2.length ≤ 1048576) (hn : cs.length ≤ 1048576) :
 Calls Tryz.prog 38 #[u, u2] w (WinP r cs w) := by
 obtain ⟨Ar, cr, rfl, -, -⟩ := hu.mk_
 obtain ⟨Ac, cc, rfl, -, -⟩ := hu2.mk_
 obtain ⟨ti, hti, htz, hts, htb⟩ := info_parts span_info
 replace hti := Lib.hid hti
 replace htz := Lib.hid htz
 replace hts := Lib.hid hts
 replace htb := Lib.hid htb
 have hal := balloc w (.cells #[.int .i64 0, .int .i64 0] 24)
 have x4 := Box.new w 24 [.int .i64 0, .int .i64 0]
 change Box (w.alloc (.cells #[.int .i64 0, .int .i64 0] 24)) _ _ _ at x4
 have s0 : SeesB (w.alloc (.cells #[.int .i64 0, .int .i64 0] 24)) w.heap.size (.slice Ar r.length cr) r := (SeesB.more hu hB).below hal
 have hc0 : SeesR (w.alloc (.cells #[.int .i64 0, .int .i64 0] 24)) w.heap.size (.slice Ac cs.length cc) 5 cs.length (certS cs) := (hu2.more hB).below hal
 have hz : w.heap.size + 1 = (w.alloc (.cells #[.int .i64 0, .int .i64 0] 24)).heap.size := (World.size_alloc _ _).symm
 clear hu hu2
 by_cases h14 : 1 ≤ cs.length ∧ cs.length ≤ 4
 · have i1 : ¬ (cs.length : Int) < 1 := by omega
   have i2 : ¬ (4 : Int) < (cs.length : Int) := by omega
   replace hc0 := Lib.hid hc0
   go_enter Tryz.func38, Tryz.ntmps38
   go_upto_region 3 with (fail)
   generalize w.alloc (.cells #[.int .i64 0, .int .i64 0] 24) = W0 at *
   replace hz := Lib.hid hz
   obtain ⟨g4, hg4⟩ : ∃ x, x = w.heap.size := ⟨_, rfl⟩
   rw [← hg4] at x4 ⊢
   replace hg4 := Lib.hid hg4
   replace hal := Lib.hid hal
   replace x4 := Lib.hid x4
   replace s0 := Lib.hid s0
   go_wp2_with fail
   go_loopw [0, 6, 23] (fun vr vo t wr => ∃ k : Nat, k ≤ cs.length ∧ t = .int .i64 k ∧ Hid (SeesB wr w.heap.size vr (parG r cs k)) ∧ Hid (OwnR wr (w.heap.size + 1) 24 vo 2 k (spanS ((winL cs).take k))) ∧ Hid (chkK r cs k = 0) ∧ Hid (Box wr g4 24 [.int .i64 0, .int .i64 0]) ∧ Hid (Below w.heap.size w wr) ∧ Hid (w.heap.size + 1 ≤ wr.heap.size)) (fun _ _ t _ => cs.length - (intOf t).toNat)
   case atStart => exact ⟨0, by omega, rfl, s0, OwnR.nil _ _ _ _, rfl, x4, hal, Nat.le_of_eq hz.out⟩
   case round =>
    obtain ⟨k, hk, rfl, hr, ho, hck, hx4, hb, hzz⟩ := hrel
    obtain ⟨Ak, ck, rfl, -, -⟩ := hr.out.mk_
    obtain ⟨Ao, co, rfl, -, -⟩ := ho.out.sees.mk_
    by_cases hlt : k < cs.length
    · have i0 : (k : Int) < (cs.length : Int) := by omega
      have j0 : (0 : Int) ≤ (k : Int) := by omega
      have hlk := hl _ (certT_mem cs k hlt)
      have hwn := winL_next cs k hlt
      have hpn : parG r cs (k + 1) = (certT cs k).2.1 := rfl
      have hcn := chkK_next hck.out
      have hwc := fun x (hx : cchkC (parG r cs k) (certT cs k) = x) (hne : x ≠ 0) => win_chk (r := r) (cs := cs) h14 hlt hck.out hx hne
      obtain ⟨b, o, A1, c1, A2, c2, rfl, hbB, z0, z1, p1, z2, z3, z4, p2⟩ := cert_at (hc0.out.below (show Below w.heap.size W0 wr from ⟨hb.out.os.trans hal.out.os.symm, hb.out.tape.trans hal.out.tape.symm, hb.out.output.trans hal.out.output.symm, by have := hzz.out; have := hz.out; omega, fun j hj => (hb.out.block j hj).trans (hal.out.block j hj).symm⟩)) k hlt
      generalize hct : certT cs k = ct at *
      obtain ⟨n, p, f, t, s⟩ := ct
      dsimp only at *
      have hB2 : w.heap.size ≤ wr.heap.size := hb.out.size
      have hal8 := balloc wr (.cells #[.string (strB n), .slice A1 p.length c1, .int .i64 f, .int .i64 t, .slice A2 s.length c2] 70)
      have hx8 := Box.new wr 70 [.string (strB n), .slice A1 p.length c1, .int .i64 f, .int .i64 t, .slice A2 s.length c2]
      change Box (wr.alloc (.cells #[.string (strB n), .slice A1 p.length c1, .int .i64 f, .int .i64 t, .slice A2 s.length c2] 70)) _ _ _ at hx8
      have q1 := seesB_of p1 hB2 hal8
      have q2 := seesB_of p2 hB2 hal8
      have qr := seesB_of hr.out hB2 hal8
      have p1a := Lib.hid (SeesB.below p1 (hal8.mono hB2))
      have ho8 := Lib.hid (ho.out.below hal8)
      have hx48 := hx4.out.below hal8
      have hb8 := Lib.hid (bgo hb.out hal8)
      have hz8 : Hid (w.heap.size + 1 ≤ (wr.alloc (.cells #[.string (strB n), .slice A1 p.length c1, .int .i64 f, .int .i64 t, .slice A2 s.length c2] 70)).heap.size) := Nat.le_trans hzz.out hal8.size
      have hchk := ccheck_any _ _ _ _ (parG r cs k) n p s f t _ qr q1 q2 (Nat.le_refl _) hlk
      unfold CChkP at hchk
      generalize cchkC (parG r cs k) (n, p, f, t, s) = x at *
      generalize parG r cs k = pk at *
      replace hchk := Lib.hid hchk
      replace hwn := Lib.hid hwn
      replace hpn := Lib.hid hpn
      replace hcn := Lib.hid hcn
      replace hwc := Lib.hid hwc
      replace hct := Lib.hid hct
      clear p1 p2 q2 qr hal8
      go_upto_region 7 with (fail)
      generalize strB n = S0 at *
      generalize wr.alloc (.cells #[.string S0, .slice A1 p.length c1, .int .i64 f, .int .i64 t, .slice A2 s.length c2] 70) = W8 at *
      generalize wr.heap.size = g8 at hx8 ⊢
      clear z0 z1 z2 z3 z4
      obtain ⟨y0, y1, y2, y3, y4⟩ := box5_cells hx8
      go_wp2_with fail
      refine hchk.out.mono ?_
      rintro e W9 ⟨rfl, hb9⟩
      have hx9 := hx48.below hb9
      have hx89 := hx8.below hb9
      have p1b := Lib.hid (SeesB.below p1a.out (hb9.mono (Nat.le_of_succ_le hz8.out)))
      have ho9 := Lib.hid (ho8.out.below hb9)
      have hb99 := Lib.hid (bgo hb8.out hb9)
      have hz9 : Hid (w.heap.size + 1 ≤ W9.heap.size) := Nat.le_trans hz8.out hb9.size
      clear y0 y1 y2 y3 y4 hx8 hx48 ho8 hb8 hz8 hb9 hchk p1a q1
      by_cases hx0 : x = 0
      · subst hx0
        have hal10 := balloc W9 (.cells #[.int .i64 f, .int .i64 t] 24)
        have hrec : Hid (Sees (W9.alloc (.cells #[.int .i64 f, .int .i64 t] 24)) (W9.heap.size + 1) (.slice (some ⟨W9.heap.size, 0, none⟩) 1 1) 2 1 [.int .i64 f, .int .i64 t]) := rec_lit W9 24 [.int .i64 f, .int .i64 t]
        have ho10 := Lib.hid (ho9.out.below hal10)
        have hx10 := Lib.hid (hx9.below hal10)
        have p1c := Lib.hid (SeesB.below p1b.out (hal10.mono (Nat.le_of_succ_le hz9.out)))
        have hb10 := Lib.hid (bgo hb99.out hal10)
        have hz10 : Hid (w.heap.size + 1 ≤ (W9.alloc (.cells #[.int .i64 f, .int .i64 t] 24)).heap.size) := Nat.le_trans hz9.out hal10.size
        have hel := Lib.hid (span_elts (w := W9.alloc (.cells #[.int .i64 f, .int .i64 t] 24)) (v := .slice Ao k co) f t)
        obtain ⟨y0, y1, y2, y3, y4⟩ := box5_cells hx89
        clear hal10 hx9 hx89 ho9 hb99 hz9
        dsimp only
        go_wp2_with (at_builtin; refine wpList_appR (by rfl) _ _ 67 24 Tryz.underlying67 rfl ti _ 2 16 hti.out htz.out hts.out htb.out rfl (by omega) (by omega) (w.heap.size + 1) _ k _ rfl ho10.out _ _ 1 _ [.val (.int .i64 f), .val (.int .i64 t)] rfl hrec.out rfl hel.out (by omega) hz10.out ?_)
        intro v11 W11 ho11 hb11
        obtain ⟨Bo, d, rfl, -, -⟩ := ho11.sees.mk_
        have hr11 : Hid (SeesB W11 w.heap.size (.slice A1 p.length c1) (parG r cs (k + 1))) := by
         show SeesB _ _ _ _
         rw [hpn.out]
         exact SeesB.below p1c.out (hb11.mono (Nat.le_succ _))
        have ho12 : Hid (OwnR W11 (w.heap.size + 1) 24 (.slice Bo (k + 1) d) 2 (k + 1) (spanS ((winL cs).take (k + 1)))) := by
         show OwnR _ _ _ _ _ _ _
         rw [hwn.out, spanS_append]
         exact ho11
        have hx11 : Hid (Box W11 g4 24 [.int .i64 0, .int .i64 0]) := (hb11.block g4 (by rw [hg4.out]; exact Nat.lt_succ_self _)).trans hx10.out
        have hb12 := Lib.hid (hb10.out.trans (hb11.mono (Nat.le_succ _)))
        have hz12 := Lib.hid (Nat.le_trans hz10.out hb11.size)
        clear y0 y1 y2 y3 y4 ho11 hb11 ho10 hx10 hb10 hz10 hrec hel p1c p1b
        go_wp2_with fail
        go_roundw
        case rel => exact ⟨k + 1, by omega, by go_num, hr11, ho12, hcn, hx11, hb12, hz12⟩
        case measure => simp [intOf]; omega
      · have hC := hwc.out x rfl hx0
        have hne : Hid (x ≠ 0) := hx0
        replace hC := Lib.hid hC
        obtain ⟨k0, k1, f0, f1⟩ := box2_cells hx9
        have hx12 := Lib.hid (box_set2 hx9 (.int .i64 0) (.int .i64 0))
        have hb12 := Lib.hid (below_set2 (g := g4) hb99.out (Nat.le_of_eq hg4.out.symm) (.int .i64 0) (.int .i64 0))
        clear ho9 hx89
        dsimp only
        go_wp2_with fail
        clear k0 k1 f0 f1
        obtain ⟨k0, k1⟩ := boxT2 hx12.out
        try simp only [Exit.inBlock, Exit.then]
        refine bodyPost_ret (v := .tuple #[.agg #[.int .i64 0, .int .i64 0], .int .i64 x]) (by simp [results, Tryz.results38, go_sem, k0, k1]) rfl ?_
        exact winP_bad hC.out hne.out hb12.out
    · obtain rfl : k = cs.length := by omega
      have i0 : ¬ (cs.length : Int) < (cs.length : Int) := by omega
      have hrow := ho.out.sees
      rw [List.take_of_length_le (by rw [winL_len]; exact Nat.le_refl _)] at hrow
      have hcm := common_any wr.heap.size _ (winL cs) wr (spans_row hrow (winL_len cs)) (Nat.le_refl _) (by rw [winL_len]; omega) (by rw [winL_len]; omega)
      unfold CommonP at hcm
      rw [winL_len] at hcm
      clear hrow
      cases hm : (metL (winL cs) cs.length).1 with
      | false =>
        have hC := Lib.hid (win_no h14 hck.out hm)
        rw [hm] at hcm
        simp only [Bool.false_eq_true, if_false] at hcm
        replace hcm := Lib.hid hcm
        replace hm := Lib.hid hm
        go_wp2_with fail
        refine hcm.out.mono ?_
        rintro e w12 ⟨rfl, hb12⟩
        have hal13 := balloc w12 (.cells #[.int .i64 0, .int .i64 0] 24)
        have hx13 := (hx4.out.below hb12).below hal13
        have hb13 := Lib.hid (bgo hb.out (bgo hb12 hal13))
        clear hcm hb12 hal13
        dsimp only
        go_upto_region 14 with (fail)
        generalize w12.alloc (.cells #[.int .i64 0, .int .i64 0] 24) = W13 at *
        generalize w12.heap.size = g13 at *
        obtain ⟨k0, k1, f0, f1⟩ := box2_cells hx13
        have hx14 := Lib.hid (box_set2 hx13 (.int .i64 0) (.int .i64 0))
        have hb14 := Lib.hid (below_set2 (g := g4) hb13.out (Nat.le_of_eq hg4.out.symm) (.int .i64 0) (.int .i64 0))
        go_wp2_with fail
        clear k0 k1 f0 f1
        obtain ⟨k0, k1⟩ := boxT2 hx14.out
        refine bodyPost_ret (v := .tuple #[.agg #[.int .i64 0, .int .i64 0], .int .i64 25]) (by simp [results, Tryz.results38, go_sem, k0, k1]) rfl ?_
        exact winP_bad hC.out (by omega) hb14.out
      | true =>
        have hC := Lib.hid (win_yes h14 hck.out hm)
        rw [hm] at hcm
        simp only [if_true] at hcm
        obtain ⟨lo, hi', hlh⟩ : ∃ lo hi', (metL (winL cs) cs.length).2 = (lo, hi') := ⟨_, _, rfl⟩
        rw [hlh] at hcm
        dsimp only at hcm
        replace hcm := Lib.hid hcm
        replace hm := Lib.hid hm
        replace hlh := Lib.hid hlh
        go_wp2_with fail
        refine hcm.out.mono ?_
        rintro e w12 ⟨rfl, hb12⟩
        have hal13 := balloc w12 (.cells #[.int .i64 lo, .int .i64 hi'] 24)
        have hx13 := (hx4.out.below hb12).below hal13
        have hx15 := Box.new w12 24 [.int .i64 lo, .int .i64 hi']
        change Box (w12.alloc (.cells #[.int .i64 lo, .int .i64 hi'] 24)) _ _ _ at hx15
        have hb13 := Lib.hid (bgo hb.out (bgo hb12 hal13))
        clear hcm hb12 hal13
        dsimp only
        go_upto_region 14 with (fail)
        generalize w12.alloc (.cells #[.int .i64 lo, .int .i64 hi'] 24) = W13 at *
        generalize w12.heap.size = g13 at *
        obtain ⟨k0, k1, f0, f1⟩ := box2_cells hx13
        obtain ⟨y0, y1⟩ := boxT2 hx15
        have hx14 := Lib.hid (box_set2 hx13 (.int .i64 lo) (.int .i64 hi'))
        have hb14 := Lib.hid (below_set2 (g := g4) hb13.out (Nat.le_of_eq hg4.out.symm) (.int .i64 lo) (.int .i64 hi'))
        go_wp2_with fail
        clear k0 k1 f0 f1 y0 y1
        obtain ⟨k0, k1⟩ := boxT2 hx14.out
        refine bodyPost_ret (v := .tuple #[.agg #[.int .i64 lo, .int .i64 hi'], .int .i64 0]) (by simp [results, Tryz.results38, go_sem, k0, k1]) rfl ?_
        exact winP_ok hC.out hlh.out hb14.out
 · have hC := Lib.hid (win_len (r := r) h14)
   have hdec : ((cs.length : Int) < 1) ∨ (¬ ((cs.length : Int) < 1) ∧ (4 : Int) < (cs.length : Int)) := by omega
   obtain ⟨k0, k1, f0, f1⟩ := box2_cells x4
   have hx7 := Lib.hid (box_set2 x4 (.int .i64 0) (.int .i64 0))
   have hb7 := Lib.hid (below_set2 (g := w.heap.size) hal (Nat.le_refl _) (.int .i64 0) (.int .i64 0))
   replace x4 := Lib.hid x4
   clear h14 s0 hc0 hz
   rcases hdec with i1 | ⟨i1, i2⟩
   all_goals
    go_enter Tryz.func38, Tryz.ntmps38
    go_upto_region 1 with (fail)
    generalize w.alloc (.cells #[.int .i64 0, .int .i64 0] 24) = W0 at *
    go_wp2_with fail
    clear k0 k1 f0 f1
    obtain ⟨k0, k1⟩ := boxT2 hx7.out
    refine bodyPost_ret (v := .tuple #[.agg #[.int .i64 0, .int .i64 0], .int .i64 8]) (by simp [results, Tryz.results38, go_sem, k0, k1]) rfl ?_
    exact winP_bad hC.out (by omega) hb7.out
def AccP (r : Bs) (cs : List CertG) (lo hi : Int) (w : World) (e : Ending) (w' : World) : Prop :=
 ∃ v, e = .returned (.tuple #[v, .int .i64 (accC r cs lo hi)]) ∧ SeesB w' w'.heap.size v (accV r cs lo hi) ∧ Below w.heap.size w w'
theorem acc_bad {r : Bs} {cs : List CertG} {lo hi x : Int} (h : accC r cs lo hi = x) (hx : x ≠ 0) {w w' : World} (hb : Below w.heap.size w w') : AccP r cs lo hi w (.returned (.tuple #[.slice none 0 0, .int .i64 x])) w' := by
 refine ⟨_, by rw [h], ?_, hb⟩
 rw [accV, h, if_neg hx]
 exact SeesB.nil _ _
theorem acc_ok {r : Bs} {cs : List CertG} {lo hi : Int} (h : accC r cs lo hi = 0) {v : Value} {l : Bs} (hl : (certT cs (cs.length - 1)).2.1 = l) {w w' : World} (hs : SeesB w' w'.heap.size v l) (hb : Below w.heap.size w w') : AccP r cs lo hi w (.returned (.tuple #[v, .int .i64 0])) w' := by
 refine ⟨_, by rw [h], ?_, hb⟩
 rw [accV, h, if_pos rfl, hl]
 exact hs
theorem acc_win {r : Bs} {cs : List CertG} {lo hi : Int} (h : winC r cs ≠ 0) : accC r cs lo hi = winC r cs := by rw [accC, if_neg h]
theorem acc_form {r : Bs} {cs : List CertG} {lo hi : Int} (h : winC r cs = 0) (hv : vS lo hi = false) : accC r cs lo hi = 3 := by rw [accC, if_pos h, hv]; rfl
theorem acc_out {r : Bs} {cs : List CertG} {lo hi : Int} (h : winC r cs = 0) (hv : vS lo hi = true) (hi' : inS lo hi (winV r cs).1 (winV r cs).2 = false) : accC r cs lo hi = 25 := by rw [accC, if_pos h, hv, hi']; rfl
theorem acc_yes {r : Bs} {cs : List CertG} {lo hi : Int} (h : winC r cs = 0) (hv : vS lo hi = true) (hi' : inS lo hi (winV r cs).1 (winV r cs).2 = true) : accC r cs lo hi = 0 := by rw [accC, if_pos h, hv, hi']; rfl
theorem win_pos {r : Bs} {cs : List CertG} (h : winC r cs = 0) : 1 ≤ cs.length ∧ cs.length ≤ 4 := by
 rcases Decidable.em (1 ≤ cs.length ∧ cs.length ≤ 4) with h1 | h1
 · exact h1
 · rw [win_len h1] at h; omega
set_option maxRecDepth 100000 in
set_option maxHeartbeats 4000000 in
theorem cacc_any (B : Nat) (u u2 : Value) (r : Bs) (cs : List CertG) (lo hi : Int) (w : World) (hu : SeesB w B u r) (hu2 : SeesR w B u2 5 cs.length (certS cs)) (hB : B ≤ w.heap.size) (hl : ∀ c ∈ cs, c.2.1.length ≤ 1048576 ∧ c.2.2.2.2.length ≤ 1048576) (hn : cs.length ≤ 1048576) :
 Calls Tryz.prog 40 #[u, u2, .agg #[.int .i64 lo, .int .i64 hi]] w (AccP r cs lo hi w) := by
 obtain ⟨Ar, cr, rfl, -, -⟩ := hu.mk_
 obtain ⟨Ac, cc, rfl, -, -⟩ := hu2.mk_
 have hal := balloc w (.cells #[.int .i64 lo, .int .i64 hi] 24)
 have x5 := Box.new w 24 [.int .i64 lo, .int .i64 hi]
 change Box (w.alloc (.cells #[.int .i64 lo, .int .i64 hi] 24)) _ _ _ at x5
 have hc0 : Hid (SeesR w w.heap.size (.slice Ac cs.length cc) 5 cs.length (certS cs)) := hu2.more hB
 have hw := cwin_any w.heap.size _ _ r cs _ ((SeesB.more hu hB).below hal) ((hu2.more hB).below hal) hal.size (fun c hc => (hl c hc).2) hn
 unfold WinP at hw
 generalize hx : winC r cs = x at *
 have hva := Lib.hid (fun W => valid_any lo hi W)
 have hin := Lib.hid (fun W => inside_any lo hi (winV r cs).1 (winV r cs).2 W)
 have hA := Lib.hid (fun (h : winC r cs = 0) (hv : vS lo hi = true) => acc_out (r := r) (cs := cs) h hv)
 have hA2 := Lib.hid (fun (h : winC r cs = 0) (hv : vS lo hi = true) => acc_yes (r := r) (cs := cs) h hv)
 generalize (winV r cs).1 = a at *
 generalize (winV r cs).2 = b at *
 replace hw := Lib.hid hw
 replace hx := Lib.hid hx
 clear hu hu2
 go_enter Tryz.func40, Tryz.ntmps40
 go_upto_region 1 with (fail)
 generalize w.alloc (.cells #[.int .i64 lo, .int .i64 hi] 24) = W0 at *
 generalize w.heap.size = g5 at x5 ⊢
 go_wp2_with fail
 refine hw.out.mono ?_
 rintro e w1 ⟨rfl, hb1⟩
 have hal2 := balloc w1 (.cells #[.int .i64 a, .int .i64 b] 24)
 have x8 := Box.new w1 24 [.int .i64 a, .int .i64 b]
 change Box (w1.alloc (.cells #[.int .i64 a, .int .i64 b] 24)) _ _ _ at x8
 have hb12 := bgo hb1 hal2
 replace x5 := x5.below hb12
 have hb2 := Lib.hid (bgo hal hb12)
 clear hal hb1 hal2 hb12 hw
 dsimp only
 go_upto_region 2 with (fail)
 generalize w1.alloc (.cells #[.int .i64 a, .int .i64 b] 24) = W2 at *
 generalize w1.heap.size = g8 at *
 by_cases hx0 : x = 0
 · subst hx0
   obtain ⟨y0, y1⟩ := boxT2 x5
   go_wp2_with fail
   refine (hva.out _).mono ?_
   rintro e w3 ⟨rfl, hb3⟩
   have hb4 := Lib.hid (bgo hb2.out hb3)
   have x53 := x5.below hb3
   have x83 := x8.below hb3
   clear y0 y1
   dsimp only
   cases hv : vS lo hi with
   | false =>
     have hC := Lib.hid (acc_form (lo := lo) (hi := hi) hx.out hv)
     replace hv := Lib.hid hv
     go_wp2_with fail
     go_returns
     exact acc_bad hC.out (by omega) hb4.out
   | true =>
     have hA3 := hA.out hx.out hv
     have hA4 := hA2.out hx.out hv
     replace hv := Lib.hid hv
     obtain ⟨y0, y1⟩ := boxT2 x53
     obtain ⟨z0, z1⟩ := boxT2 x83
     go_wp2_with fail
     refine (hin.out _).mono ?_
     rintro e w5 ⟨rfl, hb5⟩
     have hb6 := Lib.hid (bgo hb4.out hb5)
     clear y0 y1 z0 z1
     dsimp only
     cases hi' : inS lo hi a b with
     | false =>
       have hC := Lib.hid (hA3 hi')
       replace hi' := Lib.hid hi'
       clear hA3 hA4
       go_wp2_with fail
       go_returns
       exact acc_bad hC.out (by omega) hb6.out
     | true =>
       have hC := Lib.hid (hA4 hi')
       replace hi' := Lib.hid hi'
       have h14 := win_pos hx.out
       obtain ⟨m, hm⟩ : ∃ m, cs.length = m + 1 := ⟨cs.length - 1, by omega⟩
       have hml : m < cs.length := by omega
       have hpl := (hl _ (certT_mem cs m hml)).1
       obtain ⟨b0, o, A1, c1, A2, c2, rfl, hbB, z0, z1, p1, -, -, -, -⟩ := cert_at (hc0.out.below hb6.out) m hml
       have hlast : Hid ((certT cs (cs.length - 1)).2.1 = (certT cs m).2.1) := by show _ = _; rw [hm, Nat.add_sub_cancel]
       have i1 : (cs.length : Int) - 1 = (m : Int) := by omega
       have i2 : (0 : Int) ≤ (m : Int) := by omega
       have i3 : (m : Int) < (cs.length : Int) := by omega
       have hB6 := hb6.out.size
       generalize (certT cs m).2.1 = pk at *
       clear hA3 hA4 z0 hm
       have hcl := Lib.hid (bclone_any w5.heap.size (.slice A1 pk.length c1) pk w5 (SeesB.more p1 hB6) (Nat.le_refl _) (by omega))
       go_wp2_with fail
       refine hcl.out.mono ?_
       rintro e w7 ⟨v7, rfl, h7, hb7⟩
       dsimp only
       go_wp2_with fail
       go_returns
       exact acc_ok hC.out hlast.out h7.sees (bgo hb6.out hb7)
 · have hC := Lib.hid ((acc_win (lo := lo) (hi := hi) (show winC r cs ≠ 0 by rw [hx.out]; exact hx0)).trans hx.out)
   have hne : Hid (x ≠ 0) := hx0
   have i0 : (x == 0) = false := by rw [beq_eq_false_iff_ne]; exact hx0
   clear hx0
   go_wp2_with fail
   go_returns
   exact acc_bad hC.out hne.out hb2.out
end Go.Proofs.YtjgepckncogdaaaGreat

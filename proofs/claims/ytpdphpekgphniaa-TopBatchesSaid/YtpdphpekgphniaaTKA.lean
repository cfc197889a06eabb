/- A piece of my texts, cut out by slice.py: what a claim leans on. -/
import Derived.Test.YtpdphpekgphniaaTKAb
namespace Go.Proofs.Ytpdphpekgphniaa
section
open Go.RowKit
set_option linter.unusedVariables false
attribute [local go_sem ↓] Go.wp_at_zero Go.wp_at_succ
def CutSome (a b : Bs) (w : World) (e : Ending) (w' : World) : Prop := ∃ v1 v2, e = .returned (.tuple #[v1, v2, .bool true]) ∧ OwnB w' w.heap.size v1 a ∧ OwnB w' w.heap.size v2 b ∧ Below w.heap.size w w'
theorem cut_no (B : Nat) (u : Value) (l : Bs) (n : Nat) (w : World) (hu : SeesB w B u l) (hn : l.length < n) :
    Calls Try.prog 70 #[u, .int .i64 (n : Int)] w fun e w' => e = .returned (.tuple #[.slice none 0 0, .slice none 0 0, .bool false]) ∧ w' = w := by
  obtain ⟨A, c, rfl, -, -⟩ := hu.mk_
  clear hu
  have i0 : ¬ ((n : Int) < 0) := by omega
  have i1 : (l.length : Int) < (n : Int) := by omega
  go_enter Try.func70, Try.ntmps70
  go_wp2_with fail
  go_returns
  exact ⟨rfl, rfl⟩
set_option maxRecDepth 100000 in
theorem cut_yes (B : Nat) (u : Value) (l : Bs) (n : Nat) (w : World) (hu : SeesB w B u l) (hB : B ≤ w.heap.size) (hn : n ≤ l.length) (hl : l.length ≤ 1048576) :
    Calls Try.prog 70 #[u, .int .i64 (n : Int)] w (CutSome (l.take n) (l.drop n) w) := by
  obtain ⟨A, c, rfl, hc1, hc2⟩ := hu.mk_
  have i0 : ¬ ((n : Int) < 0) := by omega
  have i1 : ¬ ((l.length : Int) < (n : Int)) := by omega
  have i2 : (n : Int) ≤ (l.length : Int) := by omega
  have i3 : (n : Int) ≤ (c : Int) := by omega
  have i4 : (0 : Int) ≤ (n : Int) := by omega
  have r1 := run_cut_to (P := Try.prog) 22 Try.underlying22 1 byte_size A l.length c .i64 (n : Int) (by omega) (by omega)
  have r2 := run_cut_from (P := Try.prog) 22 Try.underlying22 1 byte_size A l.length c .i64 (n : Int) (by omega) (by omega)
  rw [Int.toNat_natCast] at r1 r2
  have c1 := SeesB.cut (a := 0) (b := n) hu (by omega) hn
  have c2 := SeesB.cut (a := n) (b := l.length) hu hn (Nat.le_refl _)
  rw [List.drop_zero, Nat.sub_zero, Nat.sub_zero] at c1
  rw [Nat.sub_zero, Nat.sub_zero] at r1
  rw [List.take_of_length_le (by rw [List.length_drop]; omega)] at c2
  have h1 := fun W (hW : Below w.heap.size w W) => clone_any B _ _ W (c1.below (hW.mono hB)) (Nat.le_trans hB hW.size) (by rw [List.length_take]; omega)
  have h2 := fun W (hW : Below w.heap.size w W) => clone_any B _ _ W (c2.below (hW.mono hB)) (Nat.le_trans hB hW.size) (by rw [List.length_drop]; omega)
  generalize cutA A c 0 1 = A1 at *
  generalize cutA A c n 1 = A2 at *
  replace h1 := Lib.hid h1
  replace h2 := Lib.hid h2
  clear c1 c2 hu
  go_enter Try.func70, Try.ntmps70
  go_wp2_with fail
  go_region_held3 (fun W' : World => True) (trivial)
    (first
      | (go_at_call 30; have _h := hb1; clear _h; refine (h2.out _ hb1).mono ?_; rintro e w2 ⟨v2, rfl, k2, hb2⟩)
      | (go_at_call 30; refine (h1.out _ (bdrew w)).mono ?_; rintro e w1 ⟨v1, rfl, k1, hb1⟩
         replace hb1 := (bdrew w).trans hb1))
  all_goals
    go_wp2_with fail
    go_returns
    exact ⟨v1, v2, rfl, (k1.below hb2).mono (Nat.le_refl _), k2.mono hb1.size, bgo hb1 hb2⟩
def ParseSome (s : Sig) (w : World) (e : Ending) (w' : World) : Prop :=
  ∃ v1 v2, e = .returned (.tuple #[.agg #[.int .i64 (s.height : Int), .int .i64 (s.index : Int), v1, v2], .bool true]) ∧ OwnL w' w.heap.size v1 s.elements ∧ OwnL w' w.heap.size v2 s.path ∧ Below w.heap.size w w'
def ParseNone (w : World) (e : Ending) (w' : World) : Prop :=
  e = .returned (.tuple #[.agg #[.int .i64 0, .int .i64 0, .slice none 0 0, .slice none 0 0], .bool false]) ∧ Below w.heap.size w w'
theorem zero_set4 {W : World} {g : Nat} {T : TypeId} {a b c d : Value} (h : Box W g T [a, b, c, d]) (x0 x1 x2 x3 : Value) : Box ((((W.setCell ⟨g, 0, none⟩ x0).setCell ⟨g, 1, none⟩ x1).setCell ⟨g, 2, none⟩ x2).setCell ⟨g, 3, none⟩ x3) g T [x0, x1, x2, x3] := by
  have := (((h.set 0 x0).set 1 x1).set 2 x2).set 3 x3
  simpa using this
theorem below_set4 {w W : World} {g : Nat} (h : Below w.heap.size w W) (hg : w.heap.size ≤ g) (x0 x1 x2 x3 : Value) : Below w.heap.size w ((((W.setCell ⟨g, 0, none⟩ x0).setCell ⟨g, 1, none⟩ x1).setCell ⟨g, 2, none⟩ x2).setCell ⟨g, 3, none⟩ x3) :=
  (((h.setCell (p := ⟨g, 0, none⟩) hg _).setCell (p := ⟨g, 1, none⟩) hg _).setCell (p := ⟨g, 2, none⟩) hg _).setCell (p := ⟨g, 3, none⟩) hg _
set_option maxRecDepth 100000 in
theorem parse_short (B : Nat) (u : Value) (l : Bs) (w : World) (hu : SeesB w B u l) (hB : B ≤ w.heap.size) (hl : l.length < 5) :
    Calls Try.prog 44 #[u] w (ParseNone w) := by
  have hb0 := balloc w (.cells #[.int .i64 0, .int .i64 0, .slice none 0 0, .slice none 0 0] 73)
  have hx := Box.new w 73 [.int .i64 0, .int .i64 0, .slice none 0 0, .slice none 0 0]
  change Box (w.alloc (.cells #[.int .i64 0, .int .i64 0, .slice none 0 0, .slice none 0 0] 73)) _ _ _ at hx
  have hc := cut_no B u l 5 (w.alloc (.cells #[.int .i64 0, .int .i64 0, .slice none 0 0, .slice none 0 0] 73)) (hu.below (hb0.mono hB)) hl
  obtain ⟨A, c, rfl, -, -⟩ := hu.mk_
  replace hc := Lib.hid hc
  clear hu
  go_enter Try.func44, Try.ntmps44
  go_wp2_with fail
  refine hc.out.mono ?_
  rintro e w1 ⟨rfl, rfl⟩
  clear hc
  generalize w.alloc (.cells #[.int .i64 0, .int .i64 0, .slice none 0 0, .slice none 0 0] 73) = W at *
  have z0 : W.cell? ⟨w.heap.size, 0, none⟩ = some (.int .i64 0) := hx.cell 0
  have z1 : W.cell? ⟨w.heap.size, 1, none⟩ = some (.int .i64 0) := hx.cell 1
  have z2 : W.cell? ⟨w.heap.size, 2, none⟩ = some (.slice none 0 0) := hx.cell 2
  have z3 : W.cell? ⟨w.heap.size, 3, none⟩ = some (.slice none 0 0) := hx.cell 3
  have f0 := hx.frozen 0
  have f1 := hx.frozen 1
  have f2 := hx.frozen 2
  have f3 := hx.frozen 3
  have hlt := hx.lt
  have kz := Lib.hid (zero_set4 hx (.int .i64 0) (.int .i64 0) (.slice none 0 0) (.slice none 0 0))
  have kb := Lib.hid (below_set4 hb0 (Nat.le_refl _) (.int .i64 0) (.int .i64 0) (.slice none 0 0) (.slice none 0 0))
  clear hx hb0
  dsimp only
  go_wp2_with fail
  clear z0 z1 z2 z3 f0 f1 f2 f3
  generalize (((W.setCell ⟨w.heap.size, 0, none⟩ (.int .i64 0)).setCell ⟨w.heap.size, 1, none⟩ (.int .i64 0)).setCell ⟨w.heap.size, 2, none⟩ (.slice none 0 0)).setCell ⟨w.heap.size, 3, none⟩ (.slice none 0 0) = W2 at *
  have z0 : W2.cell? ⟨w.heap.size, 0, none⟩ = some (.int .i64 0) := kz.out.cell 0
  have z1 : W2.cell? ⟨w.heap.size, 1, none⟩ = some (.int .i64 0) := kz.out.cell 1
  have z2 : W2.cell? ⟨w.heap.size, 2, none⟩ = some (.slice none 0 0) := kz.out.cell 2
  have z3 : W2.cell? ⟨w.heap.size, 3, none⟩ = some (.slice none 0 0) := kz.out.cell 3
  refine bodyPost_ret (v := .tuple #[.agg #[.int .i64 0, .int .i64 0, .slice none 0 0, .slice none 0 0], .bool false]) (by simp [results, Try.results44, go_sem, z0, z1, z2, z3]) rfl ?_
  exact ⟨rfl, kb.out⟩
theorem foldl_lt (l : Bs) : ∀ v : Nat, l.foldl (fun v x => v * 256 + x.toNat) v < (v + 1) * 256 ^ l.length := by
  induction l with
  | nil => intro v; simp
  | cons x l ih =>
    intro v
    have h1 := ih (v * 256 + x.toNat)
    have h2 := x.toNat_lt
    rw [List.foldl_cons, List.length_cons, Nat.pow_succ, Nat.mul_comm (256 ^ l.length), ← Nat.mul_assoc]
    exact Nat.lt_of_lt_of_le h1 (Nat.mul_le_mul_right _ (by omega))
theorem getB_lt4 (l : Bs) (h : l.length = 4) : getB l < 4294967296 := by
  rw [getB_val]
  have := foldl_lt l 0
  rw [h] at this
  have h2 := Nat.mod_le (valB l) 18446744073709551616
  unfold valB at h2 ⊢
  omega
theorem cutL_take (size n : Nat) (b : Bs) : cutL size n (b.take (size * n)) = cutL size n b := by
  induction n generalizing b with
  | zero => rfl
  | succ n ih =>
    rw [cutL, cutL, List.take_take, Nat.min_eq_left (by rw [Nat.mul_succ]; omega), List.drop_take, show size * (n + 1) - size = size * n from by rw [Nat.mul_succ]; omega, ih]
theorem wrap_pow2 (h : Nat) (hh : h ≤ 6) : IntKind.i64.wrap ((2 : Int) ^ h) = ((2 ^ h : Nat) : Int) := by
  rcases (by omega : h = 0 ∨ h = 1 ∨ h = 2 ∨ h = 3 ∨ h = 4 ∨ h = 5 ∨ h = 6) with rfl | rfl | rfl | rfl | rfl | rfl | rfl
  all_goals decide +kernel
def NoB (a : Value) : Prop := ∀ n, a ≠ .int .u8 n
theorem NoB.i (n : Int) : NoB (.int .i64 n) := fun m e => by cases e
theorem NoB.s (A : Option Addr) (n c : Nat) : NoB (.slice A n c) := fun m e => by cases e
theorem noBL4 {a b c d : Value} (ha : NoB a) (hb : NoB b) (hc : NoB c) (hd : NoB d) : NoByte [a, b, c, d] := by
  intro x hx n e
  simp only [List.mem_cons, List.not_mem_nil, or_false] at hx
  rcases hx with rfl | rfl | rfl | rfl
  · exact ha n e
  · exact hb n e
  · exact hc n e
  · exact hd n e
theorem OwnL.poke4 {W : World} {base g : Nat} {T : TypeId} {v a b c d : Value} {ls : List Bs} (h : OwnL W base v ls) (hG : g < base) (hx : Box W g T [a, b, c, d]) (ha : NoB a) (hb : NoB b) (hc : NoB c) (hd : NoB d) (x0 x1 x2 x3 : Value) (h0 : NoB x0) (h1 : NoB x1) (h2 : NoB x2) :
    OwnL ((((W.setCell ⟨g, 0, none⟩ x0).setCell ⟨g, 1, none⟩ x1).setCell ⟨g, 2, none⟩ x2).setCell ⟨g, 3, none⟩ x3) base v ls := by
  have k0 := h.poke (j := 0) (v' := x0) hG hx (noBL4 ha hb hc hd)
  have y0 := hx.set 0 x0
  simp only [List.set_cons_zero] at y0
  have k1 := k0.poke (j := 1) (v' := x1) hG y0 (noBL4 h0 hb hc hd)
  have y1 := y0.set 1 x1
  simp only [List.set_cons_zero, List.set_cons_succ] at y1
  have k2 := k1.poke (j := 2) (v' := x2) hG y1 (noBL4 h0 h1 hc hd)
  have y2 := y1.set 2 x2
  simp only [List.set_cons_zero, List.set_cons_succ] at y2
  exact k2.poke (j := 3) (v' := x3) hG y2 (noBL4 h0 h1 h2 hd)
def ParseP (x : Option Sig) (w : World) (e : Ending) (w' : World) : Prop :=
  match x with
  | none => ParseNone w e w'
  | some s => ParseSome s w e w'
set_option maxRecDepth 100000 in
set_option maxHeartbeats 2000000 in
theorem parse_long (B : Nat) (u : Value) (l : Bs) (w : World) (hu : SeesB w B u l) (hB : B ≤ w.heap.size) (hl5 : 5 ≤ l.length) (hl : l.length ≤ 1048576) :
    Calls Try.prog 44 #[u] w (ParseP (partsG l) w) := by
  have hb0 := balloc w (.cells #[.int .i64 0, .int .i64 0, .slice none 0 0, .slice none 0 0] 73)
  have hx := Box.new w 73 [.int .i64 0, .int .i64 0, .slice none 0 0, .slice none 0 0]
  change Box (w.alloc (.cells #[.int .i64 0, .int .i64 0, .slice none 0 0, .slice none 0 0] 73)) _ _ _ at hx
  have hc := cut_yes B u l 5 (w.alloc (.cells #[.int .i64 0, .int .i64 0, .slice none 0 0, .slice none 0 0] 73)) (hu.below (hb0.mono hB)) (Nat.le_trans hB hb0.size) hl5 hl
  obtain ⟨A, c, rfl, -, -⟩ := hu.mk_
  replace hc := Lib.hid hc
  clear hu
  have hl1 : (l.take 5).length = 5 := by rw [List.length_take]; omega
  have hl2 : (l.drop 5).length = l.length - 5 := List.length_drop
  have hh0 : (l.take 5).getD 0 0 = l.getD 0 0 := by rw [List.getD_eq_getElem?_getD, List.getElem?_take, if_pos (by omega), ← List.getD_eq_getElem?_getD]
  have hi0 : (l.take 5).drop 1 = (l.drop 1).take 4 := by rw [List.drop_take]
  have hi4 : ((l.drop 1).take 4).length = 4 := by rw [List.length_take, List.length_drop]; omega
  have hidx := getB_lt4 _ hi4
  have hel : Hid (cutL 16 35 ((l.drop 5).take 560) = cutL 16 35 (l.drop 5)) := cutL_take 16 35 (l.drop 5)
  have hP : Hid (partsG l = if l.length < 565 then none
    else if 6 < (l.getD 0 0).toNat ∨ 2 ^ (l.getD 0 0).toNat ≤ getB ((l.drop 1).take 4) ∨ l.length ≠ 565 + 32 * (l.getD 0 0).toNat then none
    else some ⟨(l.getD 0 0).toNat, getB ((l.drop 1).take 4), cutL 16 35 (l.drop 5), cutL 32 (l.getD 0 0).toNat (l.drop 565)⟩) := rfl
  have hx0 := (l.getD 0 0).toNat_lt
  go_enter Try.func44, Try.ntmps44
  go_wp2_with fail
  refine hc.out.mono ?_
  rintro e w1 ⟨v1, v2, rfl, k1, k2, hb1⟩
  replace hx := hx.below hb1
  replace hb1 := bgo hb0 hb1
  clear hb0 hc
  obtain ⟨A1, c1, rfl, hc1, hc1'⟩ := k1.sees.mk_
  obtain ⟨A2, c2, rfl, -, -⟩ := k2.sees.mk_
  obtain ⟨b1, o1, rfl, hbB, hcell⟩ := k1.sees.at_ (by omega)
  have x0 := hcell 0 (by omega)
  rw [hh0, Nat.add_zero] at x0
  have s1 := SeesB.cut (a := 1) (b := 5) k1.sees (by omega) (by omega)
  rw [hi0, List.take_of_length_le (by omega)] at s1
  rw [hl1] at hc1 ⊢
  rw [hl2] at k2 ⊢
  have r1 : ∀ W, (Instr.slice 22 (.slice (some ⟨b1, o1, none⟩) 5 c1) (some (.int .i64 1)) none none).run Try.prog W = .ok (.slice (cutA (some ⟨b1, o1, none⟩) c1 1 1) 4 (c1 - 1)) W := fun W =>
    run_cut_from (P := Try.prog) 22 Try.underlying22 1 byte_size (some ⟨b1, o1, none⟩) 5 c1 .i64 1 (by omega) (by omega) W
  generalize cutA (some ⟨b1, o1, none⟩) c1 1 1 = A3 at *
  have hget : ∀ W : World, Below w1.heap.size w1 W → Calls Try.prog 71 #[.slice A3 4 (c1 - 1)] W fun e w' => e = .returned (.int .u64 (getB ((l.drop 1).take 4) : Int)) ∧ w' = W := fun W hW => get_any w1.heap.size _ _ W (s1.below hW)
  unfold byV at x0
  generalize (l.getD 0 0).toNat = h at *
  generalize getB ((l.drop 1).take 4) = ix at *
  replace hget := Lib.hid hget
  replace hb1 := Lib.hid hb1
  replace hx := Lib.hid hx
  replace k2 := Lib.hid k2
  have m1 : IntKind.i64.wrap (ix : Int) = (ix : Int) := by rw [IntKind.wrap_i64]; omega
  have m0 : IntKind.i64.wrap (h : Int) = (h : Int) := by rw [IntKind.wrap_i64]; omega
  clear s1 hcell k1 hh0 hi0 hi4 hl1 hl2
  dsimp only
  go_upto_region 4 with (fail)
  go_cut [7] (fun v W => v = .pointer (some ⟨w1.heap.size, 0, none⟩) ∧ Hid (Box W w1.heap.size 73 [.int .i64 (h : Int), .int .i64 (ix : Int), .slice none 0 0, .slice none 0 0]) ∧ Hid (Below w1.heap.size w1 W))
  case first =>
    go_region_held3 (fun W' : World => W'.cell? ⟨b1, o1, none⟩ = some (.int .u8 (h : Int)))
      (first | (go_keep; done))
      (first
        | (go_at_call 71; refine (hget.out _ (bdrew w1)).mono ?_; rintro e w' ⟨rfl, rfl⟩)
        | (go_at_call 71; refine (hget.out _ (by (repeat (first | exact Below.refl _ _ | (refine bgo ?_ (balloc _ _)) | (refine bgo ?_ (bdrew _)) | (refine bgo ?_ (by assumption)))))).mono ?_; rintro e w' ⟨rfl, rfl⟩))
    all_goals
      go_wp2_with fail
      go_meet
      exact ⟨rfl, Box.new w1 _ _, (balloc w1 _).drew⟩
  case rest =>
    obtain ⟨rfl, hx3, hb2⟩ := hcut
    obtain ⟨W2, rfl⟩ : ∃ W : World, W = wc := ⟨_, rfl⟩
    have hx2 := hx.out.below hb2.out
    have k22 := k2.out.below hb2.out
    have hg2 := hx.out.lt
    replace hb2 := Lib.hid (bgo hb1.out hb2.out)
    have hGw : w.heap.size ≤ w1.heap.size := hb1.out.size
    generalize w1.heap.size = G at *
    clear hx k2 hb1 hget x0 r1 m1 m0
    have c0 : W2.cell? ⟨G, 0, none⟩ = some (.int .i64 (h : Int)) := hx3.out.cell 0
    have c1' : W2.cell? ⟨G, 1, none⟩ = some (.int .i64 (ix : Int)) := hx3.out.cell 1
    obtain ⟨R, hR⟩ : ∃ R, R = l.length - 5 := ⟨_, rfl⟩
    rw [← hR] at k22 ⊢
    have hRl : R + 5 = l.length := by omega
    have hR0 := Lib.hid hR
    clear hR
    have m2 : IntKind.i64.wrap ((h : Int) * 32) = (h : Int) * 32 := by rw [IntKind.wrap_i64]; omega
    have m3 : IntKind.i64.wrap (560 + (h : Int) * 32) = 560 + (h : Int) * 32 := by rw [IntKind.wrap_i64]; omega
    by_cases hh : h ≤ 6
    · have hp := wrap_pow h hh
      have hp2 := wrap_pow2 h hh
      have hp64 := pow_le64 h hh
      by_cases hix : ix < 2 ^ h
      · by_cases hlen : l.length = 565 + 32 * h
        · have hn : partsG l = some ⟨h, ix, cutL 16 35 (l.drop 5), cutL 32 h (l.drop 565)⟩ := by
            rw [hP.out, if_neg (by omega), if_neg (by omega)]
          rw [← hel.out, show l.drop 565 = (l.drop 5).drop 560 by rw [List.drop_drop]] at hn
          have hRR : (l.drop 5).length = R := by rw [List.length_drop]; omega
          have hR560 : R = 560 + 32 * h := by omega
          clear hP hel
          generalize 2 ^ h = N at *
          generalize l.drop 5 = rs at *
          have hn := Lib.hid hn
          have i0 : decide ((N : Int) ≤ (ix : Int)) = false := by simp; omega
          have i1 : ((R : Int) != 560 + (h : Int) * 32) = false := by rw [bne_eq_false_iff_eq]; omega
          replace hRl := Lib.hid hRl
          replace hlen := Lib.hid hlen
          replace hR560 := Lib.hid hR560
          replace hRR := Lib.hid hRR
          go_wp2_with fail
          go_quiet ((go_at_call 34; exact Calls.quiet_of_same (tall_yes _ _ (by omega) (by omega))))
          go_wp2_with fail
          have hx2q : Box (W2.drewN nq) w.heap.size 73 _ := hx2
          have hx3q : Box (W2.drewN nq) G 73 _ := hx3.out
          have k22q : OwnB (W2.drewN nq) _ _ _ := k22
          have hb2q := below_drewN hb2.out nq
          clear c0 c1' hx2 hb2 hx3 k22
          generalize W2.drewN nq = W at *
          have hc2 := cut_yes W.heap.size (.slice A2 R c2) rs 560 W k22q.sees (Nat.le_refl _) (by rw [hRR.out, hR560.out]; omega) (by rw [hRR.out, hR560.out]; omega)
          refine hc2.mono ?_
          rintro e W3 ⟨v3, v4, rfl, k3, k4, hb3⟩
          have hl3 : (rs.take 560).length = 16 * 35 := by rw [List.length_take, hRR.out, hR560.out]; omega
          have hl4 : (rs.drop 560).length = 32 * h := by rw [List.length_drop, hRR.out, hR560.out]; omega
          replace hx2q := hx2q.below hb3
          replace hx3q := hx3q.below hb3
          replace hb3 := bgo hb2q hb3
          have hpp := Lib.hid (parts_any W3.heap.size v3 (rs.take 560) 16 35 W3 k3.sees (Nat.le_refl _) (by omega) (by omega) (by omega) hl3)
          have hp2' : Hid (∀ W4, Below W3.heap.size W3 W4 → Calls Try.prog 72 #[v4, .int .i64 32] W4 (GivesL (cutL 32 h (rs.drop 560)) W4)) := fun W4 h4 => parts_any W3.heap.size v4 (rs.drop 560) 32 h W4 (k4.sees.below h4) h4.size (by omega) (by omega) (by omega) hl4
          obtain ⟨A3', c3, rfl, -, -⟩ := k3.sees.mk_
          obtain ⟨A4, c4, rfl, -, -⟩ := k4.sees.mk_
          rw [hl3] at hpp ⊢
          rw [hl4] at hp2' ⊢
          have hE := cutL_len 16 35 (rs.take 560)
          have hPT := cutL_len 32 h (rs.drop 560)
          generalize cutL 16 35 (rs.take 560) = ES at *
          generalize cutL 32 h (rs.drop 560) = PS at *
          replace hE := Lib.hid hE
          replace hPT := Lib.hid hPT
          replace hx2q := Lib.hid hx2q
          replace hx3q := Lib.hid hx3q
          replace hb3 := Lib.hid hb3
          clear hc2 hb2q k22q k3 k4 hl3 hl4
          dsimp only
          go_wp2_with fail
          refine hpp.out.mono ?_
          rintro e W4 ⟨v5, rfl, k5, hb4⟩
          obtain ⟨A5, c5, rfl⟩ := k5.shape
          dsimp only
          go_wp2_with fail
          refine (hp2'.out W4 hb4).mono ?_
          rintro e W5 ⟨v6, rfl, k6, hb5⟩
          obtain ⟨A6, c6, rfl⟩ := k6.shape
          rw [hE.out] at k5 ⊢
          rw [hPT.out] at k6 ⊢
          have hG3 := hx3q.out.lt
          have hb35 := bgo hb4 hb5
          have y2 := hx2q.out.below hb35
          have y3 := hx3q.out.below hb35
          have k5' := k5.below hb5
          have k6' := k6.mono hb4.size
          replace hb5 := bgo hb3.out hb35
          have hwb : W3.heap.size ≤ W5.heap.size := hb35.size
          have q5 := k5'.poke (j := 2) (v' := .slice A5 35 c5) hG3 y3 (noBL4 (NoB.i _) (NoB.i _) (NoB.s _ _ _) (NoB.s _ _ _))
          have q6 := k6'.poke (j := 2) (v' := .slice A5 35 c5) hG3 y3 (noBL4 (NoB.i _) (NoB.i _) (NoB.s _ _ _) (NoB.s _ _ _))
          have p3 := y3.set 2 (.slice A5 35 c5)
          have p2 := y2.other (G := G) (j := 2) (v := .slice A5 35 c5) (by omega)
          simp only [List.set_cons_zero, List.set_cons_succ] at p3
          replace q5 := q5.poke (j := 3) (v' := .slice A6 h c6) hG3 p3 (noBL4 (NoB.i _) (NoB.i _) (NoB.s _ _ _) (NoB.s _ _ _))
          replace q6 := q6.poke (j := 3) (v' := .slice A6 h c6) hG3 p3 (noBL4 (NoB.i _) (NoB.i _) (NoB.s _ _ _) (NoB.s _ _ _))
          replace p3 := p3.set 3 (.slice A6 h c6)
          replace p2 := p2.other (G := G) (j := 3) (v := .slice A6 h c6) (by omega)
          simp only [List.set_cons_zero, List.set_cons_succ] at p3
          have pb := (hb5.setCell (p := ⟨G, 2, none⟩) hGw (.slice A5 35 c5)).setCell (p := ⟨G, 3, none⟩) hGw (.slice A6 h c6)
          have d2 : W5.cell? ⟨G, 2, none⟩ = some (.slice none 0 0) := y3.cell 2
          have d3 : W5.cell? ⟨G, 3, none⟩ = some (.slice none 0 0) := y3.cell 3
          have e2 := y3.frozen 2
          have e3 := y3.frozen 3
          replace q5 := Lib.hid q5
          replace q6 := Lib.hid q6
          replace p2 := Lib.hid p2
          replace p3 := Lib.hid p3
          replace pb := Lib.hid pb
          have hGs : G < W5.heap.size := Nat.lt_of_lt_of_le hG3 hwb
          clear hb4 hb35 k5 k6 k5' k6' hpp hp2' hx2q hx3q hb3 y2 y3 hb5
          dsimp only
          go_upto_region 9 with (fail)
          clear d2 d3 e2 e3
          generalize (W5.setCell ⟨G, 2, none⟩ (.slice A5 35 c5)).setCell ⟨G, 3, none⟩ (.slice A6 h c6) = W6 at *
          have d0 : W6.cell? ⟨G, 0, none⟩ = some (.int .i64 (h : Int)) := p3.out.cell 0
          have d1 : W6.cell? ⟨G, 1, none⟩ = some (.int .i64 (ix : Int)) := p3.out.cell 1
          have d2 : W6.cell? ⟨G, 2, none⟩ = some (.slice A5 35 c5) := p3.out.cell 2
          have d3 : W6.cell? ⟨G, 3, none⟩ = some (.slice A6 h c6) := p3.out.cell 3
          have z0 : W6.cell? ⟨w.heap.size, 0, none⟩ = some (.int .i64 0) := p2.out.cell 0
          have z1 : W6.cell? ⟨w.heap.size, 1, none⟩ = some (.int .i64 0) := p2.out.cell 1
          have z2 : W6.cell? ⟨w.heap.size, 2, none⟩ = some (.slice none 0 0) := p2.out.cell 2
          have z3 : W6.cell? ⟨w.heap.size, 3, none⟩ = some (.slice none 0 0) := p2.out.cell 3
          have f0 := p2.out.frozen 0
          have f1 := p2.out.frozen 1
          have f2 := p2.out.frozen 2
          have f3 := p2.out.frozen 3
          have hs3 : w.heap.size < W3.heap.size := by omega
          have kz := Lib.hid (zero_set4 p2.out (.int .i64 (h : Int)) (.int .i64 (ix : Int)) (.slice A5 35 c5) (.slice A6 h c6))
          have kb := Lib.hid (below_set4 pb.out (Nat.le_refl _) (.int .i64 (h : Int)) (.int .i64 (ix : Int)) (.slice A5 35 c5) (.slice A6 h c6))
          have t5 := Lib.hid (q5.out.poke4 hs3 p2.out (NoB.i _) (NoB.i _) (NoB.s _ _ _) (NoB.s _ _ _) (.int .i64 (h : Int)) (.int .i64 (ix : Int)) (.slice A5 35 c5) (.slice A6 h c6) (NoB.i _) (NoB.i _) (NoB.s _ _ _))
          have t6 := Lib.hid (q6.out.poke4 hs3 p2.out (NoB.i _) (NoB.i _) (NoB.s _ _ _) (NoB.s _ _ _) (.int .i64 (h : Int)) (.int .i64 (ix : Int)) (.slice A5 35 c5) (.slice A6 h c6) (NoB.i _) (NoB.i _) (NoB.s _ _ _))
          clear q5 q6 p2 p3 pb
          go_wp2_with fail
          clear z0 z1 z2 z3 f0 f1 f2 f3 d0 d1 d2 d3
          generalize (((W6.setCell ⟨w.heap.size, 0, none⟩ (.int .i64 (h : Int))).setCell ⟨w.heap.size, 1, none⟩ (.int .i64 (ix : Int))).setCell ⟨w.heap.size, 2, none⟩ (.slice A5 35 c5)).setCell ⟨w.heap.size, 3, none⟩ (.slice A6 h c6) = W7 at *
          have z0 : W7.cell? ⟨w.heap.size, 0, none⟩ = some (.int .i64 (h : Int)) := kz.out.cell 0
          have z1 : W7.cell? ⟨w.heap.size, 1, none⟩ = some (.int .i64 (ix : Int)) := kz.out.cell 1
          have z2 : W7.cell? ⟨w.heap.size, 2, none⟩ = some (.slice A5 35 c5) := kz.out.cell 2
          have z3 : W7.cell? ⟨w.heap.size, 3, none⟩ = some (.slice A6 h c6) := kz.out.cell 3
          refine bodyPost_ret (v := .tuple #[.agg #[.int .i64 (h : Int), .int .i64 (ix : Int), .slice A5 35 c5, .slice A6 h c6], .bool true]) (by simp [results, Try.results44, go_sem, z0, z1, z2, z3]) rfl ?_
          rw [hn.out]
          exact ⟨_, _, rfl, t5.out.mono (by omega), t6.out.mono (by omega), kb.out⟩
        · have hn : partsG l = none := by
            rw [hP.out]; split
            · rfl
            · rw [if_pos (.inr (.inr hlen))]
          clear hP hel
          generalize 2 ^ h = N at *
          have i0 : decide ((N : Int) ≤ (ix : Int)) = false := by simp; omega
          have i1 : ((R : Int) != 560 + (h : Int) * 32) = true := by rw [bne_iff_ne]; omega
          replace hRl := Lib.hid hRl
          replace hlen := Lib.hid hlen
          replace hn := Lib.hid hn
          go_wp2_with fail
          go_quiet ((go_at_call 34; exact Calls.quiet_of_same (tall_yes _ _ (by omega) (by omega))))
          have hx2q : Box (W2.drewN nq) w.heap.size 73 _ := hx2
          have hb2q := below_drewN hb2.out nq
          clear c0 c1' hx2 hb2 hx3 k22
          generalize W2.drewN nq = W at *
          have z0 : W.cell? ⟨w.heap.size, 0, none⟩ = some (.int .i64 0) := hx2q.cell 0
          have z1 : W.cell? ⟨w.heap.size, 1, none⟩ = some (.int .i64 0) := hx2q.cell 1
          have z2 : W.cell? ⟨w.heap.size, 2, none⟩ = some (.slice none 0 0) := hx2q.cell 2
          have z3 : W.cell? ⟨w.heap.size, 3, none⟩ = some (.slice none 0 0) := hx2q.cell 3
          have f0 := hx2q.frozen 0
          have f1 := hx2q.frozen 1
          have f2 := hx2q.frozen 2
          have f3 := hx2q.frozen 3
          have kz := Lib.hid (zero_set4 hx2q (.int .i64 0) (.int .i64 0) (.slice none 0 0) (.slice none 0 0))
          have kb := Lib.hid (below_set4 hb2q (Nat.le_refl _) (.int .i64 0) (.int .i64 0) (.slice none 0 0) (.slice none 0 0))
          clear hx2q hb2q
          go_wp2_with fail
          clear z0 z1 z2 z3 f0 f1 f2 f3
          generalize (((W.setCell ⟨w.heap.size, 0, none⟩ (.int .i64 0)).setCell ⟨w.heap.size, 1, none⟩ (.int .i64 0)).setCell ⟨w.heap.size, 2, none⟩ (.slice none 0 0)).setCell ⟨w.heap.size, 3, none⟩ (.slice none 0 0) = W3 at *
          have z0 : W3.cell? ⟨w.heap.size, 0, none⟩ = some (.int .i64 0) := kz.out.cell 0
          have z1 : W3.cell? ⟨w.heap.size, 1, none⟩ = some (.int .i64 0) := kz.out.cell 1
          have z2 : W3.cell? ⟨w.heap.size, 2, none⟩ = some (.slice none 0 0) := kz.out.cell 2
          have z3 : W3.cell? ⟨w.heap.size, 3, none⟩ = some (.slice none 0 0) := kz.out.cell 3
          refine bodyPost_ret (v := .tuple #[.agg #[.int .i64 0, .int .i64 0, .slice none 0 0, .slice none 0 0], .bool false]) (by simp [results, Try.results44, go_sem, z0, z1, z2, z3]) rfl ?_
          rw [hn.out]
          exact ⟨rfl, kb.out⟩
      · have hn : partsG l = none := by
          rw [hP.out]; split
          · rfl
          · rw [if_pos (.inr (.inl (by omega)))]
        clear hP hel
        generalize 2 ^ h = N at *
        have i0 : decide ((N : Int) ≤ (ix : Int)) = true := by simp; omega
        replace hRl := Lib.hid hRl
        replace hn := Lib.hid hn
        go_wp2_with fail
        go_quiet ((go_at_call 34; exact Calls.quiet_of_same (tall_yes _ _ (by omega) (by omega))))
        have hx2q : Box (W2.drewN nq) w.heap.size 73 _ := hx2
        have hb2q := below_drewN hb2.out nq
        clear c0 c1' hx2 hb2 hx3 k22
        generalize W2.drewN nq = W at *
        have z0 : W.cell? ⟨w.heap.size, 0, none⟩ = some (.int .i64 0) := hx2q.cell 0
        have z1 : W.cell? ⟨w.heap.size, 1, none⟩ = some (.int .i64 0) := hx2q.cell 1
        have z2 : W.cell? ⟨w.heap.size, 2, none⟩ = some (.slice none 0 0) := hx2q.cell 2
        have z3 : W.cell? ⟨w.heap.size, 3, none⟩ = some (.slice none 0 0) := hx2q.cell 3
        have f0 := hx2q.frozen 0
        have f1 := hx2q.frozen 1
        have f2 := hx2q.frozen 2
        have f3 := hx2q.frozen 3
        have kz := Lib.hid (zero_set4 hx2q (.int .i64 0) (.int .i64 0) (.slice none 0 0) (.slice none 0 0))
        have kb := Lib.hid (below_set4 hb2q (Nat.le_refl _) (.int .i64 0) (.int .i64 0) (.slice none 0 0) (.slice none 0 0))
        clear hx2q hb2q
        go_wp2_with fail
        clear z0 z1 z2 z3 f0 f1 f2 f3
        generalize (((W.setCell ⟨w.heap.size, 0, none⟩ (.int .i64 0)).setCell ⟨w.heap.size, 1, none⟩ (.int .i64 0)).setCell ⟨w.heap.size, 2, none⟩ (.slice none 0 0)).setCell ⟨w.heap.size, 3, none⟩ (.slice none 0 0) = W3 at *
        have z0 : W3.cell? ⟨w.heap.size, 0, none⟩ = some (.int .i64 0) := kz.out.cell 0
        have z1 : W3.cell? ⟨w.heap.size, 1, none⟩ = some (.int .i64 0) := kz.out.cell 1
        have z2 : W3.cell? ⟨w.heap.size, 2, none⟩ = some (.slice none 0 0) := kz.out.cell 2
        have z3 : W3.cell? ⟨w.heap.size, 3, none⟩ = some (.slice none 0 0) := kz.out.cell 3
        refine bodyPost_ret (v := .tuple #[.agg #[.int .i64 0, .int .i64 0, .slice none 0 0, .slice none 0 0], .bool false]) (by simp [results, Try.results44, go_sem, z0, z1, z2, z3]) rfl ?_
        rw [hn.out]
        exact ⟨rfl, kb.out⟩
    · have hn : partsG l = none := by
        rw [hP.out]; split
        · rfl
        · rw [if_pos (.inl (by omega))]
      clear hP hel
      replace hRl := Lib.hid hRl
      replace hn := Lib.hid hn
      go_wp2_with fail
      go_quiet ((go_at_call 34; exact Calls.quiet_of_same (tall_no _ _ (by omega))))
      have hx2q : Box (W2.drewN nq) w.heap.size 73 _ := hx2
      have hb2q := below_drewN hb2.out nq
      clear c0 c1' hx2 hb2 hx3 k22
      generalize W2.drewN nq = W at *
      have z0 : W.cell? ⟨w.heap.size, 0, none⟩ = some (.int .i64 0) := hx2q.cell 0
      have z1 : W.cell? ⟨w.heap.size, 1, none⟩ = some (.int .i64 0) := hx2q.cell 1
      have z2 : W.cell? ⟨w.heap.size, 2, none⟩ = some (.slice none 0 0) := hx2q.cell 2
      have z3 : W.cell? ⟨w.heap.size, 3, none⟩ = some (.slice none 0 0) := hx2q.cell 3
      have f0 := hx2q.frozen 0
      have f1 := hx2q.frozen 1
      have f2 := hx2q.frozen 2
      have f3 := hx2q.frozen 3
      have kz := Lib.hid (zero_set4 hx2q (.int .i64 0) (.int .i64 0) (.slice none 0 0) (.slice none 0 0))
      have kb := Lib.hid (below_set4 hb2q (Nat.le_refl _) (.int .i64 0) (.int .i64 0) (.slice none 0 0) (.slice none 0 0))
      clear hx2q hb2q
      go_wp2_with fail
      clear z0 z1 z2 z3 f0 f1 f2 f3
      generalize (((W.setCell ⟨w.heap.size, 0, none⟩ (.int .i64 0)).setCell ⟨w.heap.size, 1, none⟩ (.int .i64 0)).setCell ⟨w.heap.size, 2, none⟩ (.slice none 0 0)).setCell ⟨w.heap.size, 3, none⟩ (.slice none 0 0) = W3 at *
      have z0 : W3.cell? ⟨w.heap.size, 0, none⟩ = some (.int .i64 0) := kz.out.cell 0
      have z1 : W3.cell? ⟨w.heap.size, 1, none⟩ = some (.int .i64 0) := kz.out.cell 1
      have z2 : W3.cell? ⟨w.heap.size, 2, none⟩ = some (.slice none 0 0) := kz.out.cell 2
      have z3 : W3.cell? ⟨w.heap.size, 3, none⟩ = some (.slice none 0 0) := kz.out.cell 3
      refine bodyPost_ret (v := .tuple #[.agg #[.int .i64 0, .int .i64 0, .slice none 0 0, .slice none 0 0], .bool false]) (by simp [results, Try.results44, go_sem, z0, z1, z2, z3]) rfl ?_
      rw [hn.out]
      exact ⟨rfl, kb.out⟩
end
section
open Go.RowKit
set_option linter.unusedVariables false
attribute [local go_sem ↓] Go.wp_at_zero Go.wp_at_succ
theorem partsG_short (l : Bs) (h : l.length < 565) : partsG l = none := by rw [partsG, if_pos h]
theorem partsG_ok (l : Bs) (s : Sig) (h : partsG l = some s) : s.height ≤ 6 ∧ s.index < 2 ^ s.height ∧ s.elements.length = 35 ∧ (∀ x ∈ s.elements, x.length = 16) ∧ s.path.length = s.height ∧ (∀ x ∈ s.path, x.length = 32) := by
  unfold partsG at h
  split at h
  · cases h
  · split at h
    · cases h
    · rename_i h1 h2
      injection h with h
      subst h
      dsimp only
      have hd : (l.drop 5).length = l.length - 5 := List.length_drop
      refine ⟨by omega, by omega, cutL_len _ _ _, ?_, cutL_len _ _ _, ?_⟩
      · rw [← cutL_take]
        exact cutL_el 16 35 _ (by rw [List.length_take, hd]; omega)
      · exact cutL_el 32 _ _ (by rw [List.length_drop]; omega)
theorem parse_all (B : Nat) (u : Value) (l : Bs) (w : World) (hu : SeesB w B u l) (hB : B ≤ w.heap.size) (hl : l.length ≤ 1048576) : Calls Try.prog 44 #[u] w (ParseP (partsG l) w) := by
  by_cases h : 5 ≤ l.length
  · exact parse_long B u l w hu hB h hl
  · rw [partsG_short l (by omega)]; exact parse_short B u l w hu hB (by omega)
theorem checkI_in (root leaf : Bs) (n i : Nat) (p : List Bs) (hn : 1 ≤ n) (hn2 : n ≤ 1024) (hi : i < n) : checkI root (n : Int) (i : Int) leaf p = checkG root n i leaf p := by
  have hin : inI (n : Int) (i : Int) = true := by simp [inI]; omega
  unfold checkI climbI checkG
  rw [if_pos hin, Int.toNat_natCast, Int.toNat_natCast]
  cases h : climbG n i (leafH leaf) p with
  | none => rfl
  | some x =>
    obtain ⟨r, used⟩ := x
    dsimp only
    by_cases hu : used = p.length
    · simp [hu]
      rw [Bool.eq_iff_iff]; simp
    · simp [hu]
end
section
open Go.RowKit
set_option linter.unusedVariables false
attribute [local go_sem ↓] Go.wp_at_zero Go.wp_at_succ
set_option maxRecDepth 100000 in
set_option maxHeartbeats 2000000 in
theorem verify_any (B : Nat) (u u2 u3 : Value) (p m l : Bs) (w : World) (hu : SeesB w B u p) (hu2 : SeesB w B u2 m) (hu3 : SeesB w B u3 l) (hB : B ≤ w.heap.size) (hm : m.length ≤ 1048576) (hl : l.length ≤ 1048576) :
    Calls Try.prog 22 #[u, u2, u3] w (BoolPost (verifyG p m l) w) := by
  have hc := parse_all B u3 l w hu3 hB hl
  obtain ⟨A, c, rfl, -, -⟩ := hu.mk_
  obtain ⟨A2, c2, rfl, -, -⟩ := hu2.mk_
  obtain ⟨A3, c3, rfl, -, -⟩ := hu3.mk_
  clear hu3
  rcases hpt : partsG l with _ | s
  · have hv : Hid (verifyG p m l = false) := by show _ = _; rw [verifyG, hpt]
    rw [hpt] at hc
    replace hc : Hid (Calls _ _ _ _ (ParseNone w)) := hc
    clear hpt hu hu2
    go_enter Try.func22, Try.ntmps22
    go_wp2_with fail
    refine hc.out.mono ?_
    rintro e w1 ⟨rfl, hb1⟩
    dsimp only
    go_wp2_with fail
    go_ret
    exact ⟨ret_bool hv.out.symm, bgo hb1 (balloc _ _)⟩
  · obtain ⟨s1, s2, s3, s4, s5, s6⟩ := partsG_ok l s hpt
    rw [hpt] at hc
    replace hc : Hid (Calls _ _ _ _ (ParseSome s w)) := hc
    by_cases hp : p.length = 32
    · by_cases hm2 : m.length ≤ 65535
      · have hv : Hid (verifyG p m l = checkI p ((2 ^ s.height : Nat) : Int) (s.index : Int) (recG (digG p s.index m) s.elements) s.path) := by
          show _ = _
          have := pow_le64 s.height s1
          rw [checkI_in _ _ _ _ _ (by omega) (by omega) s2, verifyG, hpt]
          simp [hp, hm2]
        have hpw := wrap_pow s.height s1
        have hpw3 := wrap_pow2 s.height s1
        have hp64 := pow_le64 s.height s1
        have hix : s.index < 4294967296 := Nat.lt_of_lt_of_le s2 (Nat.le_trans hp64.2 (by omega))
        have hpl : p.length ≤ 1048576 := by omega
        have hdg := fun (W : World) (hW : Below w.heap.size w W) => digest_any B (.slice A p.length c) (.slice A2 m.length c2) p m s.index W (hu.below (hW.mono hB)) (hu2.below (hW.mono hB)) (Nat.le_trans hB hW.size) hpl hm hix
        clear hpl
        have hpw2 := fun (W : World) (hW : Below w.heap.size w W) => hu.below (hW.mono hB)
        rw [hp] at hdg hpw2 ⊢
        have i0 : ¬ ((65535 : Int) < (m.length : Int)) := by omega
        have hd16 : Hid ((digG p s.index m).length = 16) := short_len _
        generalize digG p s.index m = DG at *
        obtain ⟨h, i, es, ps⟩ := s
        dsimp only at *
        generalize 2 ^ h = N at *
        replace hdg := Lib.hid hdg
        replace hpw2 := Lib.hid hpw2
        replace s3 := Lib.hid s3
        replace s4 := Lib.hid s4
        replace s5 := Lib.hid s5
        replace s6 := Lib.hid s6
        clear hpt hp hu hu2
        go_enter Try.func22, Try.ntmps22
        go_wp2_with fail
        refine hc.out.mono ?_
        rintro e w1 ⟨v1, v2, rfl, h1, h2, hb1⟩
        obtain ⟨A4, c4, rfl⟩ := h1.shape
        obtain ⟨A5, c5, rfl⟩ := h2.shape
        have hal := balloc w1 (.cells #[.int .i64 (h : Int), .int .i64 (i : Int), .slice A4 es.length c4, .slice A5 ps.length c5] 73)
        have hx := Box.new w1 73 [.int .i64 (h : Int), .int .i64 (i : Int), .slice A4 es.length c4, .slice A5 ps.length c5]
        change Box (w1.alloc (.cells #[.int .i64 (h : Int), .int .i64 (i : Int), .slice A4 es.length c4, .slice A5 ps.length c5] 73)) _ _ _ at hx
        replace h1 := Lib.hid (h1.below hal)
        replace h2 := Lib.hid (h2.below hal)
        have hb2 := Lib.hid (bgo hb1 hal)
        dsimp only
        go_upto_region 4 with (fail)
        generalize w1.alloc (.cells #[.int .i64 (h : Int), .int .i64 (i : Int), .slice A4 es.length c4, .slice A5 ps.length c5] 73) = W2 at *
        generalize w1.heap.size = G at *
        have K : Hid (∀ W : World, Below W2.heap.size W2 W → W.cell? ⟨G, 0, none⟩ = some (.int .i64 (h : Int)) ∧ W.cell? ⟨G, 1, none⟩ = some (.int .i64 (i : Int)) ∧ W.cell? ⟨G, 2, none⟩ = some (.slice A4 es.length c4) ∧ W.cell? ⟨G, 3, none⟩ = some (.slice A5 ps.length c5)) :=
          fun W hW => ⟨(hx.below hW).cell 0, (hx.below hW).cell 1, (hx.below hW).cell 2, (hx.below hW).cell 3⟩
        obtain ⟨x0, x1, x2, x3⟩ := K.out W2 (Below.refl _ _)
        have hdg2 := Lib.hid (hdg.out W2.drew hb2.out.drew)
        have hrc : Hid (∀ W v, Below W2.heap.size W2 W → SeesB W W.heap.size v DG → Calls Try.prog 45 #[v, .slice A4 es.length c4] W (RecPost (recG DG es) W)) := fun W v hW hv => recover_any W.heap.size v (.slice A4 es.length c4) DG es W hv (h1.out.below hW).sees (Nat.le_refl _) hd16.out s3.out s4.out
        have hr16 : (recG DG es).length = 16 := short_len _
        have hck : Hid (∀ W v, Below W2.heap.size W2 W → SeesB W W.heap.size v (recG DG es) → Calls Try.prog 23 #[.slice A 32 c, .int .i64 (N : Int), .int .i64 (i : Int), v, .slice A5 ps.length c5] W (BoolPost (checkI p (N : Int) (i : Int) (recG DG es) ps) W)) := fun W v hW hv => check_any p (N : Int) (i : Int) (recG DG es) ps W.heap.size (.slice A 32 c) v (.slice A5 ps.length c5) W ((hpw2.out W (bgo hb2.out hW)).more (Nat.le_trans hB (bgo hb2.out hW).size)) hv (h2.out.below hW).sees (Nat.le_refl _) (by omega) (fun x hx => by rw [s6.out x hx]; omega)
        generalize recG DG es = RG at *
        replace hr16 := Lib.hid hr16
        clear hx hal hdg hpw2 h1 h2
        go_region_held3 (fun W' : World => W'.cell? ⟨G, 0, none⟩ = some (.int .i64 (h : Int)) ∧ W'.cell? ⟨G, 1, none⟩ = some (.int .i64 (i : Int)) ∧ W'.cell? ⟨G, 2, none⟩ = some (.slice A4 es.length c4) ∧ W'.cell? ⟨G, 3, none⟩ = some (.slice A5 ps.length c5))
          (first | exact K.out _ hb4 | exact K.out _ hb3 | (go_keep; done))
          (first
            | (go_at_call 45; refine (hrc.out _ _ hb3 k3).mono ?_; rintro e w4 ⟨v4, rfl, k4, hb4, -⟩
               obtain ⟨A7, c7, rfl, -, -⟩ := k4.mk_
               replace hb4 := bgo hb3 hb4)
            | (go_at_call 40; refine hdg2.out.mono ?_; rintro e w3 ⟨v3, rfl, k3, hb3, -⟩
               obtain ⟨A6, c6, rfl, -, -⟩ := k3.mk_
               replace hb3 := (bdrew W2).trans hb3))
        all_goals
          clear x0 x1 x2 x3
          obtain ⟨x0, x1, x2, x3⟩ := K.out w4 hb4
          have hck2 := Lib.hid (hck.out w4.drew _ (hb4.drew) k4)
          replace K : Hid (∀ W : World, Below w4.heap.size w4 W → W.cell? ⟨G, 0, none⟩ = some (.int .i64 (h : Int)) ∧ W.cell? ⟨G, 1, none⟩ = some (.int .i64 (i : Int)) ∧ W.cell? ⟨G, 2, none⟩ = some (.slice A4 es.length c4) ∧ W.cell? ⟨G, 3, none⟩ = some (.slice A5 ps.length c5)) := fun W hW => K.out W (bgo hb4 hW)
          replace hb4 := Lib.hid hb4
          clear hck hrc hdg2 k3 hb3 k4
          go_wp2_with fail
          go_region_held3 (fun W' : World => W'.cell? ⟨G, 0, none⟩ = some (.int .i64 (h : Int)) ∧ W'.cell? ⟨G, 1, none⟩ = some (.int .i64 (i : Int)) ∧ W'.cell? ⟨G, 2, none⟩ = some (.slice A4 es.length c4) ∧ W'.cell? ⟨G, 3, none⟩ = some (.slice A5 ps.length c5))
            (first | exact K.out _ ((bdrew w4).trans hb5) | (go_keep; done))
            (first
              | (go_at_call 23; refine hck2.out.mono ?_; rintro e w5 ⟨rfl, hb5⟩))
          all_goals
            go_wp2_with fail
            go_ret
            exact ⟨ret_bool hv.out.symm, bgo (bgo hb2.out hb4.out) ((bdrew w4).trans hb5)⟩
      · have hv : Hid (verifyG p m l = false) := by
          show _ = _
          rw [verifyG]; split <;> simp [hm2]
        have i0 : (65535 : Int) < (m.length : Int) := by omega
        rw [hp]
        clear hu hu2 hpt hp s2 s3 s4 s5 s6
        go_enter Try.func22, Try.ntmps22
        go_wp2_with fail
        refine hc.out.mono ?_
        rintro e w1 ⟨v1, v2, rfl, h1, h2, hb1⟩
        obtain ⟨A4, c4, rfl⟩ := h1.shape
        obtain ⟨A5, c5, rfl⟩ := h2.shape
        clear h1 h2
        dsimp only
        go_wp2_with fail
        go_ret
        exact ⟨ret_bool hv.out.symm, bgo hb1 (balloc _ _)⟩
    · have hv : Hid (verifyG p m l = false) := by
        show _ = _
        rw [verifyG]; split <;> simp [hp]
      have i0 : ((p.length : Int) != 32) = true := by rw [bne_iff_ne]; omega
      clear hu hu2 hpt s2 s3 s4 s5 s6
      go_enter Try.func22, Try.ntmps22
      go_wp2_with fail
      refine hc.out.mono ?_
      rintro e w1 ⟨v1, v2, rfl, h1, h2, hb1⟩
      obtain ⟨A4, c4, rfl⟩ := h1.shape
      obtain ⟨A5, c5, rfl⟩ := h2.shape
      clear h1 h2
      dsimp only
      go_wp2_with fail
      go_ret
      exact ⟨ret_bool hv.out.symm, bgo hb1 (balloc _ _)⟩
end
section
open Go.RowKit
set_option linter.unusedVariables false
attribute [local go_sem ↓] Go.wp_at_zero Go.wp_at_succ
def pubC (seed : Bs) (h : Int) : Int := if seed.length = 32 then (if 0 ≤ h ∧ h ≤ 6 then 0 else 4) else 5
def pubG (seed : Bs) (h : Int) : Bs := if seed.length = 32 ∧ 0 ≤ h ∧ h ≤ 6 then keyG seed h.toNat else []
def KeyPost (seed : Bs) (h : Int) (w : World) (e : Ending) (w' : World) : Prop :=
  ∃ v, e = .returned (.tuple #[v, .int .i64 (pubC seed h)]) ∧ SeesB w' w'.heap.size v (pubG seed h) ∧ Below w.heap.size w w'
theorem nilB (w : World) (B : Nat) : SeesB w B (.slice none 0 0) [] := by
  exact SeesB.nil w B
theorem key_root (seed : Bs) (k : Nat) : rootG ((leavesL seed (2 ^ k)).map leafH) = keyG seed k := rfl
set_option maxRecDepth 100000 in
theorem public_any (B : Nat) (u : Value) (seed : Bs) (h : Int) (w : World) (hu : SeesB w B u seed) (hB : B ≤ w.heap.size) :
    Calls Try.prog 17 #[u, .int .i64 h] w (KeyPost seed h w) := by
  by_cases hl : seed.length = 32
  · by_cases hh : 0 ≤ h ∧ h ≤ 6
    · obtain ⟨h0, h1⟩ := hh
      obtain ⟨k, rfl⟩ := Int.eq_ofNat_of_zero_le h0
      have hc := leaves_any B u seed k w hu hB hl (by omega)
      have hv : Hid (pubC seed k = 0) := by show _ = _; simp [pubC, hl]; omega
      have hv2 : Hid (pubG seed k = keyG seed k) := by show _ = _; simp [pubG, hl]; omega
      replace hc : Hid (Calls _ _ _ _ (GivesL (leavesL seed (2 ^ k)) w)) := hc
      have hlen := leavesL_len seed (2 ^ k)
      have hp := pow_le64 k (by omega)
      have hel := Lib.hid (leavesL_el seed (2 ^ k))
      obtain ⟨A, c, rfl, -, -⟩ := hu.mk_
      rw [hl] at hc ⊢
      clear hu hl
      rw [← key_root] at hv2
      generalize leavesL seed (2 ^ k) = ls at *
      go_enter Try.func17, Try.ntmps17
      go_wp2_with fail
      refine (tall_yes _ _ (by omega) (by omega)).mono ?_
      rintro e w0 ⟨rfl, rfl⟩
      dsimp only
      go_wp2_with fail
      refine hc.out.mono ?_
      rintro e w1 ⟨v, rfl, k1, hb1⟩
      dsimp only
      go_wp2_with fail
      refine (root_top ls _ _ _ k1.sees (Nat.le_refl _) (by omega) (fun l hx => by have := hel.out l hx; omega)).mono ?_
      rintro e w2 ⟨v2, rfl, h2, hb2⟩
      dsimp only
      go_wp2_with fail
      go_returns
      exact ⟨v2, by rw [hv.out]; rfl, by rw [hv2.out]; exact h2.sees, bgo hb1 hb2⟩
    · have hv : Hid (pubC seed h = 4) := by show _ = _; simp [pubC, hl, hh]
      have hv2 : Hid (pubG seed h = []) := by show _ = _; simp [pubG, hl, hh]
      obtain ⟨A, c, rfl, -, -⟩ := hu.mk_
      rw [hl]
      clear hu hl
      go_enter Try.func17, Try.ntmps17
      go_wp2_with fail
      refine (tall_no _ _ (by omega)).mono ?_
      rintro e w0 ⟨rfl, rfl⟩
      dsimp only
      go_wp2_with fail
      go_returns
      exact ⟨.slice none 0 0, by rw [hv.out]; rfl, by rw [hv2.out]; exact nilB _ _, by first | exact below_drewN (Below.refl _ _) _ | exact bdrew _ | exact Below.refl _ _⟩
  · have hv : Hid (pubC seed h = 5) := by show _ = _; simp [pubC, hl]
    have hv2 : Hid (pubG seed h = []) := by show _ = _; simp [pubG, hl]
    have i0 : ((seed.length : Int) != 32) = true := by rw [bne_iff_ne]; omega
    obtain ⟨A, c, rfl, -, -⟩ := hu.mk_
    clear hu hl
    go_enter Try.func17, Try.ntmps17
    go_wp2_with fail
    go_returns
    exact ⟨.slice none 0 0, by rw [hv.out]; rfl, by rw [hv2.out]; exact nilB _ _, by first | exact below_drewN (Below.refl _ _) _ | exact bdrew _ | exact Below.refl _ _⟩
end
section
open Go.RowKit
set_option linter.unusedVariables false
attribute [local go_sem ↓] Go.wp_at_zero Go.wp_at_succ
set_option maxRecDepth 100000 in
theorem within_any (v m : Int) (hm : 1 ≤ m) (hm2 : m ≤ 4294967296) (w : World) :
    Calls Try.prog 7 #[.int .i64 v, .int .i64 m] w fun e w' => e = .returned (.int .i64 (v % m)) ∧ w' = w := by
  have h0 : ¬ (m < 1) := by omega
  have hne : m ≠ 0 := by omega
  have e1 := Int.emod_nonneg v hne
  have e2 := Int.emod_lt_of_pos v (show 0 < m by omega)
  have hlt : -m < v.tmod m ∧ v.tmod m < m := ⟨by have := Int.lt_tmod_of_pos v (show 0 < m by omega); omega, Int.tmod_lt_of_pos v (by omega)⟩
  have ht : v % m = if v.tmod m < 0 then v.tmod m + m else v.tmod m := by
    have := Int.tmod_eq_emod (a := v) (b := m)
    rw [this] at hlt ⊢
    split at hlt <;> split <;> split <;> omega
  rw [ht]
  clear ht e1 e2
  have hm0 : (m == 0) = false := by rw [beq_eq_false_iff_ne]; exact hne
  by_cases hr : v.tmod m < 0
  · go_enter Try.func7, Try.ntmps7
    go_wp2_with fail
    go_returns
    exact ⟨ret_int (by simp), rfl⟩
  · go_enter Try.func7, Try.ntmps7
    go_wp2_with fail
    go_returns
    exact ⟨ret_int (by simp), rfl⟩
end
section
open Go.RowKit
set_option linter.unusedVariables false
attribute [local go_sem ↓] Go.wp_at_zero Go.wp_at_succ
def numN (v : Int) : Nat := (v % 18446744073709551616).toNat
def chunkW (seed : Int) (k : Nat) : Bs := sha (putB 8 (numN seed) ++ putB 4 k)
def rowsW (seed : Int) : Nat → Bs
  | 0 => []
  | k + 1 => rowsW seed k ++ chunkW seed k
def bytesW (seed : Int) (n : Nat) : Bs := (rowsW seed ((n + 31) / 32)).take n
theorem rowsW_len (seed : Int) (k : Nat) : (rowsW seed k).length = 32 * k := by
  induction k with
  | zero => rfl
  | succ k ih => rw [rowsW, List.length_append, ih, chunkW, sha_len]; omega
theorem From.cutA {base n c m d l s : Nat} {A : Option Addr} (h : From base (.slice A n c)) : From base (.slice (Proofs.Ytpdphpekgphniaa.cutA A c l s) m d) := by
  intro a n' c' e
  injection e with e1
  unfold Proofs.Ytpdphpekgphniaa.cutA at e1
  split at e1
  · subst e1; exact h a _ _ rfl
  · cases A with
    | none => cases e1
    | some x =>
      injection e1 with e1
      subst e1
      have e2 : (x.add (l * s)).block = x.block := by unfold Addr.add; split <;> rfl
      show base ≤ (x.add (l * s)).block
      rw [e2]
      exact h x _ _ rfl
theorem wput8_any (n : Nat) (h : n < 18446744073709551616) (w : World) : Calls Try.prog 26 #[.int .u64 (n : Int), .int .i64 8] w (Gives (putB 8 n) w) := rput_any n 8 (by omega) h w
set_option maxRecDepth 100000 in
theorem wbytes_any (seed : Int) (n : Nat) (hn : n ≤ 100000) (w : World) :
    Calls Try.prog 6 #[.int .i64 seed, .int .i64 (n : Int)] w (Shows (bytesW seed n) w) := by
  have hs : numN seed < 18446744073709551616 := by unfold numN; omega
  have m0 : IntKind.u64.wrap seed = (numN seed : Int) := by rw [IntKind.wrap_u64]; unfold numN; omega
  generalize hsd : numN seed = s at *
  replace hsd := Lib.hid hsd
  replace hs := Lib.hid hs
  go_enter Try.func6, Try.ntmps6
  go_wp2_with fail
  refine wp_fresh (fun W => OwnB W w.heap.size (.slice (some ⟨w.heap.size, 0, none⟩) 0 0) [] ∧ Below w.heap.size w W) ⟨own_made w [] (Nat.zero_le _) _ (Nat.le_refl _), (Below.refl _ _).alloc (Nat.le_refl _) _⟩ ?_
  rintro W1 ⟨ho, hb⟩
  replace ho := Lib.hid ho
  replace hb := Lib.hid hb
  go_loopw [5, 6] (fun r t wr => ∃ k : Nat, 32 * k < n + 32 ∧ t = .int .i64 k ∧ Hid (OwnB wr w.heap.size r (rowsW seed k)) ∧ Hid (Below w.heap.size w wr)) (fun _ t _ => n + 32 - 32 * (intOf t).toNat)
  case atStart => exact ⟨0, by omega, rfl, ho, hb⟩
  case round =>
    clear ho hb
    obtain ⟨k, hk, rfl, ho, hb⟩ := hrel
    have hlen := rowsW_len seed k
    by_cases hlt : 32 * k < n
    · have m1 : IntKind.u64.wrap (k : Int) = (k : Int) := by rw [IntKind.wrap_u64]; omega
      have hst : Hid (rowsW seed (k + 1) = rowsW seed k ++ sha (putB 8 s ++ putB 4 k)) := by show _ = _; rw [rowsW, chunkW, hsd.out]
      have hlc := sha_len (putB 8 s ++ putB 4 k)
      generalize rowsW seed k = acc at *
      obtain ⟨Ar, cr, rfl, -, -⟩ := ho.out.sees.mk_
      have i0 : ((acc.length : Nat) : Int) < (n : Int) := by omega
      replace hlen := Lib.hid hlen
      replace hlc := Lib.hid hlc
      have hp := Lib.hid (wput8_any s hs.out wr)
      go_wp2_with fail
      refine hp.out.mono ?_
      rintro e w1 ⟨v1, rfl, h1, hb1⟩
      obtain ⟨A1, c1, rfl, -, -⟩ := h1.sees.mk_
      have hp2 := Lib.hid (rput4_any k (by omega) w1)
      dsimp only
      go_wp2_with fail
      refine hp2.out.mono ?_
      rintro e w2 ⟨v2, rfl, h2, hb2⟩
      obtain ⟨A2, c2, rfl, -, -⟩ := h2.sees.mk_
      dsimp only
      go_wp2_with fail
      have h12 := h1.below hb2
      have hl3 := seesL_lit w2 22 (show SeesAll w2 w2.heap.size [.slice A1 (putB 8 s).length c1, .slice A2 (putB 4 k).length c2] [putB 8 s, putB 4 k] from ⟨h12.sees, h2.sees, trivial⟩) (by simp [maxLen])
      have hp8 := putB_len 8 s
      have hp4 := putB_len 4 k
      have hfl : [putB 8 s, putB 4 k].flatten = putB 8 s ++ putB 4 k := by simp
      refine (rjoin_any _ _ _ _ hl3 (Nat.le_refl _) (by rw [hfl]; simp [hp8, hp4])).mono ?_
      rintro e w3 ⟨v3, rfl, h3, hb3⟩
      rw [hfl] at h3
      have hw3 := bgo (bgo (bgo hb1 hb2) (balloc w2 _)) hb3
      dsimp only
      go_wp2_with fail
      refine (rsum_any _ _ _ _ h3.sees (Nat.le_refl _) (by simp [hp8, hp4])).mono ?_
      rintro e w4 ⟨v4, rfl, h4, hb4⟩
      replace hw3 := bgo hw3 hb4
      have ho3 := Lib.hid (ho.out.below hw3)
      have hw4 := Lib.hid (bgo hb.out hw3)
      generalize sha (putB 8 s ++ putB 4 k) = ck at *
      have hl4 := Lib.hid (show acc.length + ck.length ≤ 140737488355328 by rw [hlen.out, hlc.out]; omega)
      replace h4 := Lib.hid h4.sees
      clear hw3 hb1 hb2 hb3 hb4 hp hp2 h12 h1 h2 h3 hl3 hb ho
      dsimp only
      go_wp2_with (at_builtin; refine wpList_app (by rfl) _ _ rfl w.heap.size _ acc rfl ho3.out _ _ ck rfl h4.out hl4.out hw4.out.size ?_)
      intro v' w' hW2 hb2
      have hW2 := Lib.hid hW2
      have hb2 := Lib.hid hb2
      go_wp2_with fail
      go_roundw
      case rel => exact ⟨k + 1, by omega, by go_num, by rw [hst.out]; exact hW2.out, hw4.out.trans hb2.out⟩
      case measure => simp [intOf]; omega
    · have hk2 : k = (n + 31) / 32 := by omega
      have hbw : bytesW seed n = (rowsW seed k).take n := by rw [bytesW, ← hk2]
      rw [hbw]
      have h2 := ho.out.sees
      have hf := OwnB.from ho.out
      generalize rowsW seed k = acc at *
      obtain ⟨Ar, cr, rfl, hc1, hc2⟩ := h2.mk_
      have i0 : ¬ (((acc.length : Nat) : Int) < (n : Int)) := by omega
      have hmx : max (n : Int) 0 = (n : Int) := by omega
      have hcut := h2.take (m := n) (c' := cr) (by omega) (by omega) hc2
      have hfr : From w.heap.size (.slice Ar n cr) := hf.cut
      replace hcut := Lib.hid hcut
      replace hfr := Lib.hid hfr
      go_wp2_with fail
      go_returns
      exact ⟨_, rfl, hcut.out, hb.out, hfr.out⟩
set_option maxRecDepth 100000 in
theorem wkey_any (seed : Int) (w : World) : Calls Try.prog 16 #[.int .i64 seed] w (Shows (bytesW seed 32) w) := by
  have h := wbytes_any seed 32 (by omega) w
  replace h := Lib.hid h
  go_enter Try.func16, Try.ntmps16
  go_wp2_with fail
  refine h.out.mono ?_
  rintro e w1 ⟨v1, rfl, h1, hb1, hf1⟩
  dsimp only
  go_wp2_with fail
  go_ret
  exact ⟨v1, rfl, h1, hb1, hf1⟩
end
section
open Go.RowKit
set_option linter.unusedVariables false
set_option linter.unusedSimpArgs false
attribute [local go_sem ↓] Go.wp_at_zero Go.wp_at_succ
/-- The proof that the first m hashes are a beginning. -/
def proofG (hs : List Bs) (m : Nat) (known : Bool) : List Bs :=
  if m = hs.length then (if known then [] else [rootG hs])
  else if h : 2 ≤ hs.length then
    if m ≤ splitN hs.length then proofG (hs.take (splitN hs.length)) m known ++ [rootG (hs.drop (splitN hs.length))]
    else proofG (hs.drop (splitN hs.length)) (m - splitN hs.length) false ++ [rootG (hs.take (splitN hs.length))]
  else []
termination_by hs.length
decreasing_by
  · have := splitN_lt hs.length h; rw [List.length_take]; omega
  · have := splitN_lt hs.length h; rw [List.length_drop]; omega
theorem proofG_full (hs : List Bs) (m : Nat) (h : m = hs.length) (b : Bool) : proofG hs m b = if b then [] else [rootG hs] := by rw [proofG, if_pos h]
theorem proofG_left (hs : List Bs) (m : Nat) (b : Bool) (h : 2 ≤ hs.length) (hm : m ≠ hs.length) (hi : m ≤ splitN hs.length) : proofG hs m b = proofG (hs.take (splitN hs.length)) m b ++ [rootG (hs.drop (splitN hs.length))] := by rw [proofG, if_neg hm, dif_pos h, if_pos hi]
theorem proofG_right (hs : List Bs) (m : Nat) (b : Bool) (h : 2 ≤ hs.length) (hm : m ≠ hs.length) (hi : ¬ m ≤ splitN hs.length) : proofG hs m b = proofG (hs.drop (splitN hs.length)) (m - splitN hs.length) false ++ [rootG (hs.take (splitN hs.length))] := by rw [proofG, if_neg hm, dif_pos h, if_neg hi]
theorem proofG_short (hs : List Bs) (m : Nat) (b : Bool) : (proofG hs m b).length ≤ hs.length + 1 := by
  have : ∀ (n : Nat) (hs : List Bs) (m : Nat) (b : Bool), hs.length ≤ n → (proofG hs m b).length ≤ hs.length + 1 := by
    intro n
    induction n with
    | zero =>
      intro hs m b hn
      rw [proofG]
      split
      · split <;> simp
      · rw [dif_neg (by omega)]; simp
    | succ n ih =>
      intro hs m b hn
      by_cases hf : m = hs.length
      · rw [proofG_full _ _ hf]; split <;> simp
      · by_cases h2 : 2 ≤ hs.length
        · have hsp := splitN_lt hs.length h2
          by_cases hi : m ≤ splitN hs.length
          · rw [proofG_left _ _ _ h2 hf hi, List.length_append]
            have := ih (hs.take (splitN hs.length)) m b (by rw [List.length_take]; omega)
            rw [List.length_take] at this
            simp only [List.length_cons, List.length_nil]
            omega
          · rw [proofG_right _ _ _ h2 hf hi, List.length_append]
            have := ih (hs.drop (splitN hs.length)) (m - splitN hs.length) false (by rw [List.length_drop]; omega)
            rw [List.length_drop] at this
            simp only [List.length_cons, List.length_nil]
            omega
        · rw [proofG, if_neg hf, dif_neg h2]; simp
  exact this hs.length hs m b (Nat.le_refl _)
theorem OwnL.one {w : World} {v : Value} {R : Bs} (h : SeesB w w.heap.size v R) : OwnL (w.alloc (.cells #[v] 22)) w.heap.size (.slice (some ⟨w.heap.size, 0, none⟩) 1 1) [R] := by
  refine ⟨[v], World.ownsRow_lit (base := w.heap.size) (size := 1) w #[v] 1 (Nat.le_refl _) (by decide) (by simp), fun k hk => ?_⟩
  have : k = 0 := by simp at hk; omega
  subst this
  exact ⟨v, rfl, Elt.of_old (B := w.heap.size) (h.below (balloc w _)) (balloc w _).size (fun k hk => by cases hk; exact Nat.le_refl _)⟩
set_option maxRecDepth 100000 in
theorem proof_any (m : Nat) : ∀ (ls : List Bs) (i : Nat) (kn : Bool) (B : Nat) (u : Value) (w : World), ls.length ≤ m → 1 ≤ i → i ≤ ls.length → SeesL w B u ls → B ≤ w.heap.size → ls.length ≤ 1024 → (∀ l ∈ ls, l.length = 32) →
    Calls Try.prog 43 #[u, .int .i64 (i : Int), .bool kn] w (GivesL (proofG ls i kn) w) := by
  induction m with
  | zero => intro ls i kn B u w hm hi hi2; omega
  | succ m ih =>
    intro ls i kn B u w hm hi hi2 hu hB hn hl
    by_cases h0 : ls.length ≤ m
    · exact ih ls i kn B u w h0 hi hi2 hu hB hn hl
    · have hlen : ls.length = m + 1 := by omega
      by_cases hfull : i ≠ ls.length
      · have h2 : 2 ≤ ls.length := by omega
        obtain ⟨A, c, rfl, hc1, hc2⟩ := hu.mk_
        obtain ⟨k1, k2, k3⟩ := splitN_lt ls.length h2
        have hdv := divide_any A ls.length c w h2 hn hc1 hc2
        unfold DividePost at hdv
        have p1 := Lib.hid (fun h => proofG_left ls i kn h2 hfull h)
        have p2 := Lib.hid (fun h => proofG_right ls i kn h2 hfull h)
        generalize splitN ls.length = k at *
        obtain ⟨b, o, rfl, hbB, -⟩ := hu.at_ (by omega)
        have c1 := SeesL.cut (a := 0) (b := k) hu (by omega) (by omega)
        have c2 := SeesL.cut (a := k) (b := ls.length) hu (by omega) (Nat.le_refl _)
        rw [cutA_zero, Nat.sub_zero, Nat.sub_zero, List.drop_zero] at c1
        rw [List.take_of_length_le (by rw [List.length_drop]; omega)] at c2
        generalize cutA (some ⟨b, o, none⟩) c k 1 = A2 at hdv c2
        have l1 : ∀ x ∈ ls.take k, x.length = 32 := fun x hx => hl x (List.mem_of_mem_take hx)
        have l2 : ∀ x ∈ ls.drop k, x.length = 32 := fun x hx => hl x (List.mem_of_mem_drop hx)
        have n1 : (ls.take k).length = k := by rw [List.length_take]; omega
        have n2 : (ls.drop k).length = ls.length - k := by rw [List.length_drop]
        have q1 := Lib.hid (rootG_len _ l1)
        have q2 := Lib.hid (rootG_len _ l2)
        replace hdv := Lib.hid hdv
        have hlm := Lib.hid hlen
        have hplen : ∀ j b, Hid ((proofG (ls.take k) j b).length ≤ 2048 ∧ (proofG (ls.drop k) j b).length ≤ 2048) := fun j b => ⟨Nat.le_trans (proofG_short _ _ _) (by omega), Nat.le_trans (proofG_short _ _ _) (by omega)⟩
        have j4 : ¬ ((i : Int) = (ls.length : Int)) := by omega
        have j5 : ((i : Int) == (ls.length : Int)) = false := by rw [beq_eq_false_iff_ne]; omega
        by_cases hk : i ≤ k
        · have g1 := Lib.hid (fun q => ih (ls.take k) i kn B _ (w.drewN q) (by omega) hi (by omega) (SeesL.below c1 (below_drewN (Below.refl B w) q)) hB (by omega) l1)
          have g2 := Lib.hid (fun (W : World) (hbW : Below w.heap.size w W) => root_any _ (ls.drop k) B _ W (Nat.le_refl _) (SeesL.below c2 (hbW.mono hB)) (Nat.le_trans hB hbW.size) (by omega) l2)
          have i0 : (i : Int) ≤ (k : Int) := by omega
          replace p1 := Lib.hid (p1.out hk)
          have hp := Lib.hid (hplen i kn).out.1
          clear ih c1 c2 hu hlen hl l1 l2 n1 n2 p2 hplen
          generalize proofG (ls.take k) i kn = P at *
          generalize rootG (ls.drop k) = R at *
          generalize rootG (ls.take k) = R' at *
          go_enter Try.func43, Try.ntmps43
          go_wp2_with fail
          refine hdv.out.mono ?_
          rintro e w0 ⟨rfl, q, rfl⟩
          dsimp only
          go_wp2_with fail
          refine (g1.out q).mono ?_
          rintro e w1 ⟨v1, rfl, h1, hb1⟩
          have hb1' : Below w.heap.size w w1 := (below_drewN (Below.refl _ _) q).trans hb1
          dsimp only
          go_wp2_with fail
          refine (g2.out w1 hb1').mono ?_
          rintro e w2 ⟨v2, rfl, h2', hb2⟩
          have hw2 := bgo hb1' hb2
          have ho2 := h1.below hb2
          have hel := Elt.of_from (v := v1) h2'.sees h2'.from (fun k hk => (h1.lt k hk).2)
          have hal := balloc w2 (.cells #[v2] 22)
          have hcell := Lib.hid (one_cell w2 v2 22)
          obtain ⟨A9, c9, rfl, -, -⟩ := h2'.sees.mk_
          obtain ⟨A8, c8, rfl⟩ := h1.shape
          replace ho2 := Lib.hid (ho2.below hal)
          replace hel := Lib.hid (hel.below hal)
          have hb3 := Lib.hid (bgo hw2 hal)
          clear hb2 hb1 hb1' hw2 h1 h2' hal g1 g2
          dsimp only
          go_wp2_with (at_builtin; refine wpList_appL (by rfl) _ _ 41 Try.underlying41 rfl w.heap.size _ P rfl ho2.out _ _ _ R rfl hcell.out hel.out (by have := hp.out; omega) hb3.out.size ?_)
          intro v' w' hW2 hb4
          have hW2 := Lib.hid hW2
          have hb4 := Lib.hid hb4
          go_wp2_with fail
          go_ret
          exact ⟨_, rfl, by rw [p1.out]; exact hW2.out, hb3.out.trans hb4.out⟩
        · have g1 := Lib.hid (fun q => ih (ls.drop k) (i - k) false B _ (w.drewN q) (by omega) (by omega) (by omega) (SeesL.below c2 (below_drewN (Below.refl B w) q)) hB (by omega) l2)
          have g2 := Lib.hid (fun (W : World) (hbW : Below w.heap.size w W) => root_any _ (ls.take k) B _ W (Nat.le_refl _) (SeesL.below c1 (hbW.mono hB)) (Nat.le_trans hB hbW.size) (by omega) l1)
          have i0 : ¬ ((i : Int) ≤ (k : Int)) := by omega
          have i1 : (k : Int) ≤ (i : Int) := by omega
          have i2 : Hid (((i - k : Nat) : Int) = (i : Int) - (k : Int)) := by show _ = _; omega
          rw [i2.out] at g1
          replace p2 := Lib.hid (p2.out hk)
          have hp := Lib.hid (hplen (i - k) false).out.2
          clear ih c1 c2 hu hlen hl l1 l2 n1 n2 p1 hplen
          generalize proofG (ls.drop k) (i - k) false = P at *
          generalize rootG (ls.drop k) = R' at *
          generalize rootG (ls.take k) = R at *
          go_enter Try.func43, Try.ntmps43
          go_wp2_with fail
          refine hdv.out.mono ?_
          rintro e w0 ⟨rfl, q, rfl⟩
          dsimp only
          go_wp2_with fail
          refine (g1.out q).mono ?_
          rintro e w1 ⟨v1, rfl, h1, hb1⟩
          have hb1' : Below w.heap.size w w1 := (below_drewN (Below.refl _ _) q).trans hb1
          dsimp only
          go_wp2_with fail
          refine (g2.out w1 hb1').mono ?_
          rintro e w2 ⟨v2, rfl, h2', hb2⟩
          have hw2 := bgo hb1' hb2
          have ho2 := h1.below hb2
          have hel := Elt.of_from (v := v1) h2'.sees h2'.from (fun k hk => (h1.lt k hk).2)
          have hal := balloc w2 (.cells #[v2] 22)
          have hcell := Lib.hid (one_cell w2 v2 22)
          obtain ⟨A9, c9, rfl, -, -⟩ := h2'.sees.mk_
          obtain ⟨A8, c8, rfl⟩ := h1.shape
          replace ho2 := Lib.hid (ho2.below hal)
          replace hel := Lib.hid (hel.below hal)
          have hb3 := Lib.hid (bgo hw2 hal)
          clear hb2 hb1 hb1' hw2 h1 h2' hal g1 g2
          dsimp only
          go_wp2_with (at_builtin; refine wpList_appL (by rfl) _ _ 41 Try.underlying41 rfl w.heap.size _ P rfl ho2.out _ _ _ R rfl hcell.out hel.out (by have := hp.out; omega) hb3.out.size ?_)
          intro v' w' hW2 hb4
          have hW2 := Lib.hid hW2
          have hb4 := Lib.hid hb4
          go_wp2_with fail
          go_ret
          exact ⟨_, rfl, by rw [p2.out]; exact hW2.out, hb3.out.trans hb4.out⟩
      · have hf : i = ls.length := by omega
        have hp := proofG_full ls i hf kn
        obtain ⟨A, c, rfl, hc1, hc2⟩ := hu.mk_
        have hrt := Lib.hid (root_any _ ls B _ w (Nat.le_refl _) hu hB (by omega) hl)
        rw [hp]
        have j4 : (i : Int) = (ls.length : Int) := by omega
        rw [j4]
        clear hu ih hl hp hf j4 hfull hlen hi hi2 hm h0
        generalize rootG ls = R at *
        generalize ls.length = N at *
        go_enter Try.func43, Try.ntmps43
        cases kn with
        | true =>
          go_wp2_with fail
          go_ret
          exact ⟨_, rfl, OwnL.nil _ _, Below.refl _ _⟩
        | false =>
          go_wp2_with fail
          refine hrt.out.mono ?_
          rintro e w1 ⟨v1, rfl, h1, hb1⟩
          have hs1 := h1.sees
          obtain ⟨A9, c9, rfl, -, -⟩ := h1.sees.mk_
          have ho := OwnL.one hs1
          have hb2 := bgo hb1 (balloc w1 (.cells #[.slice A9 R.length c9] 22))
          have ho2 := ho.mono hb1.size
          clear ho hs1 h1 hrt
          dsimp only
          go_wp2_with fail
          go_ret
          exact ⟨_, rfl, ho2, hb2⟩
def ProofPost (hs : List Bs) (i : Nat) (w : World) (e : Ending) (w' : World) : Prop :=
  ∃ v, e = .returned (.tuple #[v, .int .i64 0]) ∧ OwnL w' w.heap.size v (proofG hs i true) ∧ Below w.heap.size w w'
theorem consistency_top (ls : List Bs) (i : Nat) (B : Nat) (u : Value) (w : World) (hu : SeesL w B u ls) (hi1 : 1 ≤ i) (hi : i ≤ ls.length) (hB : B ≤ w.heap.size) (hn : ls.length ≤ 1024) (hl : ∀ l ∈ ls, l.length ≤ 1048576) :
    Calls Try.prog 21 #[u, .int .i64 (i : Int)] w (ProofPost (ls.map leafH) i w) := by
  have hs := Lib.hid (of_any ls B u w hu hB hn hl)
  obtain ⟨A, c, rfl, hc1, hc2⟩ := hu.mk_
  have j0 : ¬ ((1024 : Int) < (ls.length : Int)) := by omega
  have j1 : ¬ ((i : Int) < 1) := by omega
  have j2 : ¬ ((ls.length : Int) < (i : Int)) := by omega
  clear hu hl
  go_enter Try.func21, Try.ntmps21
  go_wp2_with fail
  refine hs.out.mono ?_
  rintro e w1 ⟨v, rfl, h1, hb1⟩
  dsimp only
  go_wp2_with fail
  refine (proof_any _ _ i true _ _ _ (Nat.le_refl _) hi1 (by rw [List.length_map]; exact hi) h1 (Nat.le_refl _) (by rw [List.length_map]; exact hn) (leafs_len ls)).mono ?_
  rintro e w2 ⟨v2, rfl, h2, hb2⟩
  dsimp only
  go_wp2_with fail
  go_returns
  exact ⟨v2, rfl, h2.mono hb1.size, bgo hb1 hb2⟩
end
section
open Go.RowKit
set_option linter.unusedVariables false
attribute [local go_sem ↓] Go.wp_at_zero Go.wp_at_succ
theorem SeesB.over {w w' : World} {B g : Nat} {T : TypeId} {u : Value} {l : Bs} {xs : List Value} (h : SeesB w B u l) (hB : B ≤ w.heap.size) (hbx : Box w g T xs) (hno : NoByte xs) (hg : w.grownBy w' (some g)) : SeesB w' B u l :=
  h.stay fun hl k hk p hp => World.cell?_of_block (hg.block p.block (by rw [hp]; exact Nat.lt_of_lt_of_le (h.blk hl k hk) hB) (fun e => h.notin hbx hno hl (by rw [hk, ← hp, e])))
end
section
open Go Go.RowKit
set_option linter.unusedVariables false
set_option linter.unusedSimpArgs false
attribute [local go_sem ↓] Go.wp_at_zero Go.wp_at_succ
theorem box3_cells {W : World} {g : Nat} {T : TypeId} {a b c : Value} (h : Box W g T [a, b, c]) : W.cell? ⟨g, 0, none⟩ = some a ∧ W.cell? ⟨g, 1, none⟩ = some b ∧ W.cell? ⟨g, 2, none⟩ = some c ∧ W.frozen? ⟨g, 0, none⟩ = false ∧ W.frozen? ⟨g, 1, none⟩ = false ∧ W.frozen? ⟨g, 2, none⟩ = false := ⟨h.cell 0, h.cell 1, h.cell 2, h.frozen 0, h.frozen 1, h.frozen 2⟩
end
section
open Go.RowKit
set_option linter.unusedVariables false
set_option linter.unusedSimpArgs false
attribute [local go_sem ↓] Go.wp_at_zero Go.wp_at_succ
/-- A list of lists, read behind writes to a block where it does not lie. -/
theorem SeesL.over {w w' : World} {B g : Nat} {T : TypeId} {u : Value} {ls : List Bs} {xs : List Value} (h : SeesL w B u ls) (hB : B ≤ w.heap.size) (hu : ∀ k, u.ownBlock = some k → k ≠ g) (hbx : Box w g T xs) (hno : NoByte xs) (hg : w.grownBy w' (some g)) : SeesL w' B u ls := by
  obtain ⟨vs, ⟨h0, A, c, hv, h1, h2, h3⟩, hel⟩ := h
  refine ⟨vs, ⟨h0, A, c, hv, h1, h2, fun hn => ?_⟩, fun k hk => ?_⟩
  · obtain ⟨b, o, e, hb, hc⟩ := h3 hn
    refine ⟨b, o, e, hb, fun j x hj => (World.cell?_of_block (hg.block b (by omega) (fun e2 => ?_))).trans (hc j x hj)⟩
    injection e2 with e2
    exact hu b (by rw [hv, e]; rfl) e2
  · obtain ⟨v, g1, g2⟩ := hel k hk
    exact ⟨v, g1, g2.over hB hbx hno hg⟩
end
end Go.Proofs.Ytpdphpekgphniaa

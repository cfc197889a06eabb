/- Contracts that a law leans on, and its walk. Conditions: those of each theorem. -/
import Derived.Test.YtemopnhhmilhbaaGreatG1
namespace Go.Proofs.YtemopnhhmilhbaaGreat
open Go Go.RowKit
set_option linter.unusedVariables false
set_option linter.unusedSimpArgs false
attribute [local go_sem ↓] Go.wp_at_zero Go.wp_at_succ
def sqT (l : List Int) (i : Nat) : Int × Int := (l.getD (placeT l i) 0 % 30, l.getD (placeT l i) 0 % 30 + l.getD (stepK l (placeT l i)) 0 % 8)
def sqN (l : List Int) : Nat := (1 + l.getD 0 0 % 4).toNat
def sqF (l : List Int) (n : Nat) : List Value := (List.range n).flatMap fun j => [.int .i64 (sqT l j).1, .int .i64 (sqT l j).2]
theorem sqF_next (l : List Int) (n : Nat) : sqF l (n + 1) = sqF l n ++ [.int .i64 (sqT l n).1, .int .i64 (sqT l n).2] := by
 rw [sqF, sqF, List.range_succ, List.flatMap_append]; rfl
theorem sqT_bounds (l : List Int) (i : Nat) : 0 ≤ (sqT l i).1 ∧ (sqT l i).1 < 30 ∧ (sqT l i).1 ≤ (sqT l i).2 ∧ (sqT l i).2 < 38 := by
 unfold sqT
 have a1 := Int.emod_nonneg (l.getD (placeT l i) 0) (show (30 : Int) ≠ 0 by omega)
 have a2 := Int.emod_lt_of_pos (l.getD (placeT l i) 0) (show (0 : Int) < 30 by omega)
 have a3 := Int.emod_nonneg (l.getD (stepK l (placeT l i)) 0) (show (8 : Int) ≠ 0 by omega)
 have a4 := Int.emod_lt_of_pos (l.getD (stepK l (placeT l i)) 0) (show (0 : Int) < 8 by omega)
 dsimp only
 generalize l.getD (placeT l i) 0 % 30 = x at *
 generalize l.getD (stepK l (placeT l i)) 0 % 8 = y at *
 omega
theorem sq_small (l : List Int) (k : Nat) : -50 ≤ (sqT l k).1 ∧ (sqT l k).1 ≤ 50 ∧ (sqT l k).1 ≤ (sqT l k).2 ∧ (sqT l k).2 ≤ 100 := by
 have := sqT_bounds l k
 omega
theorem sqN_bounds (l : List Int) : 1 ≤ sqN l ∧ sqN l ≤ 4 := by
 unfold sqN
 have a1 := Int.emod_nonneg (l.getD 0 0) (show (4 : Int) ≠ 0 by omega)
 have a2 := Int.emod_lt_of_pos (l.getD 0 0) (show (0 : Int) < 4 by omega)
 omega
theorem sqF_get (l : List Int) (n j : Nat) (h : j < n) : (sqF l n)[j * 2]? = some (.int .i64 (sqT l j).1) ∧ (sqF l n)[j * 2 + 1]? = some (.int .i64 (sqT l j).2) := by
 have hlen : ∀ m, (sqF l m).length = m * 2 := by
  intro m
  induction m with
  | zero => rfl
  | succ m ih => rw [sqF_next, List.length_append, ih]; simp; omega
 induction n with
 | zero => omega
 | succ n ih =>
   rw [sqF_next]
   by_cases e : j = n
   · subst e
     rw [List.getElem?_append_right (by rw [hlen]; omega), List.getElem?_append_right (by rw [hlen]; omega), hlen]
     rw [show j * 2 - j * 2 = 0 by omega, show j * 2 + 1 - j * 2 = 1 by omega]
     exact ⟨rfl, rfl⟩
   · rw [List.getElem?_append_left (by rw [hlen]; omega), List.getElem?_append_left (by rw [hlen]; omega)]
     exact ih (by omega)
def SqP (l : List Int) (w : World) (e : Ending) (w' : World) : Prop :=
 ∃ v1 v2, e = .returned (.tuple #[v1, v2]) ∧ w'.ownsRow w.heap.size 40 2 v1 (sqN l) (sqF l (sqN l)) ∧ w'.ownsRow w.heap.size 3 1 v2 (sqN l) (whF l (sqN l)) ∧ Below w.heap.size w w'
theorem sq_done {l : List Int} {w w' : World} {v1 v2 : Value} {N g : Nat} (hg : w.heap.size = g) (h : sqN l = N) (h1 : w'.ownsRow g 40 2 v1 N (sqF l N)) (h2 : w'.ownsRow g 3 1 v2 N (whF l N)) (hb : Below g w w') : SqP l w (.returned (.tuple #[v1, v2])) w' := by
 subst h hg
 exact ⟨v1, v2, rfl, h1, h2, hb⟩
structure SpI (u : Value) (l : List Int) (g base : Nat) (w0 : World) (s : Value) (n : Nat) (xs : List Value) (o : Value) (m : Nat) (ys : List Value) (k : Nat) (W : World) : Prop where
 row : W.ownsRow base 40 2 s n xs
 who : W.ownsRow base 3 1 o m ys
 sep : ∀ j, s.ownBlock = some j → o.ownBlock ≠ some j
 tape_ : TapeAt W g u l k
 old : Below g w0 W
 size : base ≤ W.heap.size
section
variable {u : Value} {l : List Int} {g base : Nat} {w0 W W' : World} {s s' o o' : Value} {n n' m m' k k' : Nat} {xs xs' ys ys' : List Value}
theorem SpI.below (h : SpI u l g base w0 s n xs o m ys k W) (hb : Below W.heap.size W W') (hg : g < base) : SpI u l g base w0 s n xs o m ys k W' :=
 ⟨own_below h.row hb, own_below h.who hb, h.sep, h.tape_.grown hb, h.old.trans (hb.mono (by have := h.size; omega)), Nat.le_trans h.size hb.size⟩
theorem SpI.tape (h : SpI u l g base w0 s n xs o m ys k W) (hg : g < base) (ht : TapeAt W' g u l k') (hr : W.grownBy W' (some g)) : SpI u l g base w0 s n xs o m ys k' W' :=
 ⟨row_tape h.row hr hg, row_tape h.who hr hg, h.sep, ht, h.old.trans ⟨hr.os, hr.tape, hr.output, hr.size, fun k hk => hr.block k (by have := h.size; omega) (fun e => by have := Option.some.inj e; omega)⟩, Nat.le_trans h.size hr.size⟩
theorem SpI.poke {G j : Nat} {v : Value} (h : SpI u l g base w0 s n xs o m ys k W) (hg : g < base) (hG : base ≤ G) (hs : ∀ j, s.ownBlock = some j → j < G) (ho : ∀ j, o.ownBlock = some j → j < G) : SpI u l g base w0 s n xs o m ys k (W.setCell ⟨G, j, none⟩ v) := by
 have hr := setCell_grown W G j v
 exact ⟨h.row.kept hr (.inr fun e => by have := hs G e; omega), h.who.kept hr (.inr fun e => by have := ho G e; omega), h.sep, h.tape_.row hr (fun j hj => by have := Option.some.inj hj; omega), h.old.trans ⟨hr.os, hr.tape, hr.output, hr.size, fun k hk => hr.block k (by have := h.size; omega) (fun e => by have := Option.some.inj e; omega)⟩, Nat.le_trans h.size hr.size⟩
theorem SpI.app1 (h : SpI u l g base w0 s n xs o m ys k W) (hg : g < base) (hrow : W'.ownsRow base 40 2 s' n' xs') (hr : W.grownBy W' s.ownBlock) (hd : s'.ownBlock = s.ownBlock ∨ s'.ownBlock = some W.heap.size) : SpI u l g base w0 s' n' xs' o m ys k W' :=
 ⟨hrow, h.who.kept hr (sepB h.sep), fun j hj e => by
  rcases hd with d | d
  · exact h.sep j (d ▸ hj) e
  · have h9 := (h.who.lt j e).2
    rw [hj] at d
    have := Option.some.inj d
    omega,
  h.tape_.row hr (fun j hj => by have := (h.row.lt j hj).1; omega),
  h.old.trans ⟨hr.os, hr.tape, hr.output, hr.size, fun k hk => hr.block k (by have := h.size; omega) (fun e => by have := (h.row.lt k e.symm).1; omega)⟩, Nat.le_trans h.size hr.size⟩
theorem SpI.app2 (h : SpI u l g base w0 s n xs o m ys k W) (hg : g < base) (hrow : W'.ownsRow base 3 1 o' m' ys') (hr : W.grownBy W' o.ownBlock) (hd : o'.ownBlock = o.ownBlock ∨ o'.ownBlock = some W.heap.size) : SpI u l g base w0 s n xs o' m' ys' k W' :=
 ⟨h.row.kept hr (sepB fun j hj e => h.sep j e hj), hrow, fun j hj e => by
  rcases hd with d | d
  · exact h.sep j hj (d ▸ e)
  · have h9 := (h.row.lt j hj).2
    rw [e] at d
    have := Option.some.inj d
    omega,
  h.tape_.row hr (fun j hj => by have := (h.who.lt j hj).1; omega),
  h.old.trans ⟨hr.os, hr.tape, hr.output, hr.size, fun k hk => hr.block k (by have := h.size; omega) (fun e => by have := (h.who.lt k e.symm).1; omega)⟩, Nat.le_trans h.size hr.size⟩
end
theorem box_set2b {W : World} {g : Nat} {T : TypeId} {a b : Value} (h : Box W g T [a, b]) (v : Value) : Box (W.setCell ⟨g, 1, none⟩ v) g T [a, v] := by
 have := h.set 1 v
 simpa only [List.set_cons_zero, List.set_cons_succ] using this
set_option maxRecDepth 100000 in
set_option maxHeartbeats 4000000 in
theorem sq_any (u : Value) (l : List Int) (w : World) (h : SeesT w w.heap.size u l) :
 Calls Tryz.prog 27 #[u] w (SqP l w) := by
 obtain ⟨A, c, rfl, -, -⟩ := h.mk_
 have hne := Lib.hid (tnew_any _ l w h)
 obtain ⟨ti, hti, htz, hts, htb⟩ := info_parts span_info
 obtain ⟨ti2, hti2, htz2, hts2, htb2⟩ := info_parts int_info
 replace hti := Lib.hid hti
 replace htz := Lib.hid htz
 replace hts := Lib.hid hts
 replace htb := Lib.hid htb
 replace hti2 := Lib.hid hti2
 replace htz2 := Lib.hid htz2
 replace hts2 := Lib.hid hts2
 replace htb2 := Lib.hid htb2
 have hr1 := Int.emod_nonneg (l.getD 0 0) (show (4 : Int) ≠ 0 by omega)
 have hr2 := Int.emod_lt_of_pos (l.getD 0 0) (show (0 : Int) < 4 by omega)
 obtain ⟨N, hN⟩ : ∃ N, sqN l = N := ⟨_, rfl⟩
 have hN3 : (1 : Int) + l.getD 0 0 % 4 = (N : Int) := by rw [← hN, sqN]; omega
 have hN4 : N ≤ 4 := by omega
 have hp0 : Hid (stepK l 0 = placeT l 0) := rfl
 replace hN := Lib.hid hN
 clear h
 go_enter Tryz.func27, Tryz.ntmps27
 go_wp2_with fail
 refine hne.out.mono ?_
 rintro e W0 ⟨rfl, ht0, hb0, hgl⟩
 have hin := tint_any _ _ l 0 4 W0 ht0 (by omega) (by omega)
 generalize l.getD 0 0 % 4 = r at *
 generalize hgg : w.heap.size = g at *
 replace hgg := Lib.hid hgg
 replace hin := Lib.hid hin
 clear hne ht0
 dsimp only
 go_wp2_with fail
 refine hin.out.mono ?_
 rintro e w1 ⟨rfl, h1, hg1⟩
 have hbl : g ≤ W0.heap.size := Nat.le_of_lt hgl
 have hb1 : Below g w w1 := hb0.trans ⟨hg1.os, hg1.tape, hg1.output, hg1.size, fun k hk => hg1.block k (by omega) (fun e => by have := Option.some.inj e; omega)⟩
 have hgb : Hid (g < w1.heap.size) := Nat.lt_of_lt_of_le hgl hg1.size
 rw [hp0.out] at h1
 have I1 : SpI (.slice A l.length c) l g w1.heap.size w (.slice none 0 0) 0 (sqF l 0) (.slice none 0 0) 0 (whF l 0) (placeT l 0) w1 := ⟨World.ownsRow_nil _ _ _ _, World.ownsRow_nil _ _ _ _, (fun j hj => by cases hj), h1, hb1, Nat.le_refl _⟩
 clear hin hg1 hb0 hgl hbl h1 hb1
 dsimp only
 go_wp2_with fail
 go_loopw [5, 6, 7] (fun s o t wr => ∃ i : Nat, i ≤ N ∧ t = .int .i64 ((N - i : Nat) : Int) ∧ SpI (.slice A l.length c) l g w1.heap.size w s i (sqF l i) o i (whF l i) (placeT l i) wr) (fun _ _ t _ => (intOf t).toNat)
 case atStart => exact ⟨0, by omega, by go_num, I1⟩
 case round =>
  clear I1
  obtain ⟨i, hi, rfl, I1⟩ := hrel
  obtain ⟨As, cs, rfl, -, -⟩ := (Sees.of_own I1.row).mk_
  obtain ⟨Ao, co, rfl, -, -⟩ := (Sees.of_own I1.who).mk_
  by_cases hlt : i < N
  · have i0 : (0 : Int) < ((N - i : Nat) : Int) := by omega
    have e1 := sqF_next l i
    have e2 := whF_next l i
    have e3 : placeT l (i + 1) = stepK l (stepK l (stepK l (placeT l i))) := rfl
    have hsb := sqT_bounds l i
    have hin1 := tint_any g _ l (placeT l i) 30 wr I1.tape_ (by omega) (by omega)
    have hinF := Lib.hid (fun W (h : TapeAt W g (.slice A l.length c) l (stepK l (placeT l i))) => tint_any g _ l (stepK l (placeT l i)) 8 W h (by omega) (by omega))
    have hin := Lib.hid (fun W (h : TapeAt W g (.slice A l.length c) l (stepK l (stepK l (placeT l i)))) => tint_any g _ l (stepK l (stepK l (placeT l i))) 2 W h (by omega) (by omega))
    unfold sqT at e1 hsb
    unfold whT at e2
    dsimp only at e1 hsb
    generalize l.getD (placeT l i) 0 % 30 = lo at *
    generalize l.getD (stepK l (placeT l i)) 0 % 8 = d at *
    generalize l.getD (stepK l (stepK l (placeT l i))) 0 % 2 = y at *
    have hwr : IntKind.i64.wrap (lo + d) = lo + d := IntWalk.i64_in _ (by omega)
    replace hwr := Lib.hid hwr
    replace hin1 := Lib.hid hin1
    replace e1 := Lib.hid e1
    replace e2 := Lib.hid e2
    replace e3 := Lib.hid e3
    replace hsb := Lib.hid hsb
    go_wp2_with fail
    refine hin1.out.mono ?_
    rintro e w2 ⟨rfl, t2, g2⟩
    have I2 := I1.tape hgb.out t2 g2
    clear I1 hin1 t2 g2
    dsimp only
    go_upto_region 8 with (fail)
    have hal := balloc w2 (.cells #[.int .i64 lo, .int .i64 0] 40)
    have x3 := Box.new w2 40 [.int .i64 lo, .int .i64 0]
    change Box (w2.alloc (.cells #[.int .i64 lo, .int .i64 0] 40)) _ _ _ at x3
    have hb8 : Hid (w1.heap.size ≤ w2.heap.size) := I2.size
    have hs8 : Hid (∀ j, (Value.slice As i cs).ownBlock = some j → j < w2.heap.size) := fun j hj => (I2.row.lt j hj).2
    have ho8 : Hid (∀ j, (Value.slice Ao i co).ownBlock = some j → j < w2.heap.size) := fun j hj => (I2.who.lt j hj).2
    have I3 := I2.below hal hgb.out
    clear I2 hal
    generalize w2.alloc (.cells #[.int .i64 lo, .int .i64 0] 40) = w3 at *
    generalize w2.heap.size = g8 at *
    have hne8 : Hid (g ≠ g8) := by have := hgb.out; have := hb8.out; show _ ≠ _; omega
    have I3d := I3.below (bdrew w3) hgb.out
    have hin2 := Lib.hid (hinF.out w3.drew I3d.tape_)
    have x3d := Lib.hid (x3.below (bdrew w3))
    have hg8l : Hid (g8 < w3.drew.heap.size) := x3d.out.lt
    have k3 := x3d.out.cell 0
    simp only [List.getElem?_cons_zero] at k3
    have I3' := I3
    replace I3 := Lib.hid I3d
    clear hinF I3d x3 I3'
    replace hwr := hwr.out
    refine wp_region_J (fun W' : World => W'.cell? ⟨g8, 0, none⟩ = some (.int .i64 lo)) 6 (by kernel_rfl) ?_ (fun hHeld => ?_)
    · (try dsimp only); (first | exact k4 | exact k3)
    refine wpAnyJ_take0 (i := 0) (v := ?_) rfl (by kernel_rfl) (by kernel_rfl) (by kernel_rfl) (fun _ _ _ h => h) (by rfl) (Or.inl ⟨by rfl, ?_⟩) (by assumption) ?_
    rotate_left 1
    · intro w hSw; (try dsimp only at hSw); go_simp <;> (try with_reducible rfl)
    try simp only [Act.put, List.getElem_toArray, List.getElem_cons_succ, List.getElem_cons_zero, List.setIfInBounds_toArray, List.set_cons_zero, List.set_cons_succ]
    refine wpAnyJ_take (i := 1) (v := ?_) rfl (by kernel_rfl) (by kernel_rfl) (by kernel_rfl) (fun _ _ _ h => h) (by rfl) rfl (by kernel_rfl) (by kernel_rfl) (Or.inl ⟨by rfl, ?_⟩) (by assumption) ?_
    rotate_left 1
    · intro w hSw; (try dsimp only at hSw); go_simp <;> (try with_reducible rfl)
    try simp only [Act.put, List.getElem_toArray, List.getElem_cons_succ, List.getElem_cons_zero, List.setIfInBounds_toArray, List.set_cons_zero, List.set_cons_succ]
    refine wpAnyJ_take0 (i := 2) (v := ?_) rfl (by kernel_rfl) (by kernel_rfl) (by kernel_rfl) (fun _ _ _ h => h) (by rfl) (Or.inl ⟨by rfl, ?_⟩) (by assumption) ?_
    rotate_left 1
    · intro w hSw; (try dsimp only at hSw); go_simp <;> (try with_reducible rfl)
    try simp only [Act.put, List.getElem_toArray, List.getElem_cons_succ, List.getElem_cons_zero, List.setIfInBounds_toArray, List.set_cons_zero, List.set_cons_succ]
    refine wpAnyJ_ready (rs := [3]) (by kernel_rfl) (by simp) ?_
    refine AllReadyJ.cons (o := _) rfl (fun Kq hKq => ?_) ?_
    · go_simp
      go_at_call 36
      with_reducible refine hin2.out.mono ?_
      rintro e w4 ⟨rfl, t4, g4⟩
      have x4 := (g4.block g8 hg8l.out (fun e => hne8.out (Option.some.inj e).symm)).trans x3d.out
      have x4' : Box w4 g8 40 [.int .i64 lo, .int .i64 0] := x4
      obtain ⟨k4, k5, f4, f5⟩ := box2_cells x4'
      go_wp2_with fail
      refine hKq.out _ _ ?_ (fun hHeld => ?_)
      · intro _; (try dsimp only); (first | exact k4 | exact k3)
      clear hKq Kq
      try simp only [Act.put, List.getElem_toArray, List.getElem_cons_succ, List.getElem_cons_zero, List.setIfInBounds_toArray, List.set_cons_zero, List.set_cons_succ]
      refine wpAnyJ_take0 (i := 4) (v := ?_) rfl (by kernel_rfl) (by kernel_rfl) (by kernel_rfl) (fun _ _ _ h => h) (by rfl) (Or.inl ⟨by rfl, ?_⟩) (by assumption) ?_
      rotate_left 1
      · intro w hSw; (try dsimp only at hSw); go_simp <;> (try with_reducible rfl)
      try simp only [Act.put, List.getElem_toArray, List.getElem_cons_succ, List.getElem_cons_zero, List.setIfInBounds_toArray, List.set_cons_zero, List.set_cons_succ]
      refine wpAnyJ_take0 (i := 5) (v := ?_) rfl (by kernel_rfl) (by kernel_rfl) (by kernel_rfl) (fun _ _ _ h => h) (by rfl) (Or.inl ⟨by rfl, ?_⟩) (by assumption) ?_
      rotate_left 1
      · intro w hSw; (try dsimp only at hSw); go_simp <;> (try with_reducible rfl)
      try simp only [Act.put, List.getElem_toArray, List.getElem_cons_succ, List.getElem_cons_zero, List.setIfInBounds_toArray, List.set_cons_zero, List.set_cons_succ]
      refine wpAnyJ_ready (rs := [6]) (by kernel_rfl) (by simp) ?_
      refine AllReadyJ.cons (o := _) rfl (fun Kq hKq => ?_) ?_
      · go_simp
        refine hKq.out _ _ ?_ (fun hHeld => ?_)
        · intro hl; exact absurd hl (by decide)
        clear hKq Kq
        try simp only [Act.put, List.getElem_toArray, List.getElem_cons_succ, List.getElem_cons_zero, List.setIfInBounds_toArray, List.set_cons_zero, List.set_cons_succ]
        refine wpAnyJ_done (by kernel_rfl) ?_ _
        have I4 := I3.out.tape hgb.out t4 g4
        have I5 := I4.poke hgb.out (G := g8) (j := 1) (v := .int .i64 (lo + d)) hb8.out hs8.out ho8.out
        have x5 := box_set2b x4' (.int .i64 (lo + d))
        clear k4 k5 f4 f5 x4 x4' I4
        generalize w4.setCell ⟨g8, 1, none⟩ (.int .i64 (lo + d)) = w5 at *
        obtain ⟨m0, m1, -, -⟩ := box2_cells x5
        have hal := balloc w5 (.cells #[.int .i64 lo, .int .i64 (lo + d)] 40)
        have hrec : Hid (Sees (w5.alloc (.cells #[.int .i64 lo, .int .i64 (lo + d)] 40)) (w5.heap.size + 1) (.slice (some ⟨w5.heap.size, 0, none⟩) 1 1) 2 1 [.int .i64 lo, .int .i64 (lo + d)]) := rec_lit w5 40 [.int .i64 lo, .int .i64 (lo + d)]
        have I6 := I5.below hal hgb.out
        clear hal I5 x5 hHeld hin2 x3d I3 hs8 ho8 k3 hg8l hwr g4 t4
        go_wp2_with (at_builtin; refine wpList_append_sees (by rfl) _ _ 23 rfl w1.heap.size 40 ti _ 2 16 Tryz.underlying23 hti.out htz.out hts.out htb.out rfl (by omega) _ i _ rfl I6.row _ _ 1 _ rfl hrec.out (by simp [Value.oneCell']) (by unfold maxLen; omega) (by omega) I6.size ?_)
        intro v7 w7 s7 g7 d7
        obtain ⟨Bs', cs', rfl, -, -⟩ := (Sees.of_own s7).mk_
        have I7 := I6.app1 hgb.out s7 g7 (by rw [World.size_alloc]; exact d7)
        rw [← e1.out] at I7
        have hi7 := Lib.hid (hin.out w7 I7.tape_)
        clear hin I6 hrec s7 g7 d7 m0 m1
        go_wp2_with fail
        refine hi7.out.mono ?_
        rintro e w8 ⟨rfl, t8, g8'⟩
        have I8 := I7.tape hgb.out t8 g8'
        have hal := balloc w8 (.cells #[.int .i64 y] 3)
        have hrec : Hid (Sees (w8.alloc (.cells #[.int .i64 y] 3)) (w8.heap.size + 1) (.slice (some ⟨w8.heap.size, 0, none⟩) 1 1) 1 1 [.int .i64 y]) := rec_lit w8 3 [.int .i64 y]
        have I9 := I8.below hal hgb.out
        clear hi7 I7 I8 hal t8 g8'
        dsimp only
        go_wp2_with (at_builtin; refine wpList_append_sees (by rfl) _ _ 22 rfl w1.heap.size 3 ti2 _ 1 8 Tryz.underlying22 hti2.out htz2.out hts2.out htb2.out rfl (by omega) _ i _ rfl I9.who _ _ 1 _ rfl hrec.out (by simp [Value.oneCell']) (by unfold maxLen; omega) (by omega) I9.size ?_)
        intro v10 w10 o10 g10 d10
        obtain ⟨Bo', co', rfl, -, -⟩ := (Sees.of_own o10).mk_
        have I10 := I9.app2 hgb.out o10 g10 (by rw [World.size_alloc]; exact d10)
        rw [← e2.out, ← e3.out] at I10
        clear I9 hrec o10 g10 d10
        go_wp2_with fail
        go_roundw
        case rel => first | exact ⟨i + 1, by omega, by first | go_num | (congr 1; omega), I10⟩ | ((repeat apply Exists.intro); exact ⟨⟨i + 1, by omega, by first | go_num | (congr 1; omega), I10⟩, rfl⟩)
        case measure => simp [intOf]; omega
      exact AllReadyJ.nil
    exact AllReadyJ.nil
  · obtain rfl : i = N := by omega
    have i0 : ¬ (0 : Int) < ((i - i : Nat) : Int) := by omega
    go_wp2_with fail
    go_returns
    exact sq_done hgg.out hN.out (row_mono I1.row (Nat.le_of_lt hgb.out)) (row_mono I1.who (Nat.le_of_lt hgb.out)) I1.old
end Go.Proofs.YtemopnhhmilhbaaGreat

/- Contracts that a law leans on, and its walk. Conditions: those of each theorem. -/
import Derived.RangeFuncNested
import Derived.Maps.OwnIn
import Derived.Test.YtgehkgjllhkhoaaGreatI1
namespace Go.Proofs.YtgehkgjllhkhoaaGreat
open Go Go.RowKit Go.Shelf
set_option linter.unusedVariables false
attribute [local go_sem ↓] Go.wp_at_zero Go.wp_at_succ
attribute [local go_sem] Oper.semAt_some
def spansOf (ls : List LinkG) {N : Nat} (pre : List (Fin N)) : List (Int × Int) := pre.map fun i => linkV ls i.val
def InvV (ls : List LinkG) (N : Nat) (w : World) (A : Option Addr) (c G : Nat) (z : Nat) (pre : List (Fin N)) (W : World) : Prop :=
 (∃ v, Boxed W (w.heap.size + 1 + 1) 28 v ∧ W.ownsRow w.heap.size 23 2 v pre.length (spanC2 (spansOf ls pre)) ∧ True) ∧
  (Boxed W w.heap.size 28 (.slice none 0 0) ∧ Boxed W (w.heap.size + 1) 31 (.int .i64 0) ∧ Boxed W G 26 (.slice A N c)) ∧ Below w.heap.size w W ∧ (∀ x ∈ pre, linkC ls x.val = 0) ∧ z ≤ W.heap.size
def OutV (ls : List LinkG) (N : Nat) (w : World) (c : Code) (pre : List (Fin N)) (W : World) : Prop :=
 (c = .ret ∧ ∃ (qs : List (Fin N)) (x : Fin N), pre = qs ++ [x] ∧ (∀ y ∈ qs, linkC ls y.val = 0) ∧ linkC ls x.val ≠ 0 ∧ True) ∧
  (Boxed W w.heap.size 28 (.slice none 0 0) ∧ (∃ (qs : List (Fin N)) (x : Fin N), pre = qs ++ [x] ∧ Boxed W (w.heap.size + 1) 31 (.int .i64 (linkC ls x.val)))) ∧ Below w.heap.size w W
def AxV (cv : Nat → Value) (A : Option Addr) (c G N : Nat) (w : World) (x : Fin N) (a' : Act) (W : World) : Prop :=
 ∃ g, W.heap[g]? = some (.cells #[cv (x.val * 3), cv (x.val * 3 + 1), cv (x.val * 3 + 2)] 101) ∧ a' = { tmps := #[.slice A N c, undef, .pointer (some ⟨w.heap.size, 0, none⟩), .pointer (some ⟨w.heap.size + 1, 0, none⟩), .pointer (some ⟨w.heap.size + 1 + 1, 0, none⟩), lastV cv x.val, .pointer (some ⟨g, 0, none⟩), undef, undef, undef, .slice A N c, .int .i64 (N : Int), .bool false, .slice A N c, .func (.func 183) #[] #[.pointer (some ⟨G, 0, none⟩)], lastV cv x.val, .agg #[cv (x.val * 3), cv (x.val * 3 + 1), cv (x.val * 3 + 2)], undef, undef, undef, undef, undef, undef, undef, undef, undef, undef, undef, undef, undef, undef, undef, undef, undef, undef, undef, undef, undef, undef, undef, undef, undef, undef, undef], defers := [] }
theorem cells_own {β : Type} (B : Nat) (f : β → Nat → Prop) (T : TypeId) (cs : Array Value) : OwnFrom B (fun (s : β) W => ∃ g, W.heap[g]? = some (.cells cs T) ∧ f s g) := fun s X Y row hs hg hrow => by
 obtain ⟨g, h1, h2⟩ := hs
 refine ⟨g, (hg.block g (Array.getElem?_eq_some_iff.1 h1).1 (fun e => ?_)).trans h1, h2⟩
 obtain ⟨-, o, ho, hc⟩ := hrow g e.symm
 rw [h1] at ho
 cases ho
 cases hc
theorem cells_two (w : World) (a b : Value) (T : TypeId) : ∀ (j : Nat) (u : Value), [a, b][j]? = some u → (w.alloc (.cells #[a, b] T)).cell? ((⟨w.heap.size, 0, none⟩ : Addr).add j) = some u := by
 intro j u h
 have hx := Box.new w T [a, b]
 match j, h with
 | 0, h => cases h; exact hx.cell 0
 | 1, h => cases h; exact hx.cell 1
theorem outV_of {ls : List LinkG} {N B : Nat} {w W w1 : World} {pre : List (Fin N)} {x : Fin N} {C : Int} (j3 : Boxed w1 w.heap.size 28 (.slice none 0 0)) (j4 : Boxed w1 (w.heap.size + 1) 31 (.int .i64 0)) (hK : KeepsFrom B W w1) (hb : Below w.heap.size w w1)
 (h0 : ∀ y ∈ pre, linkC ls y.val = 0) (hC : linkC ls x.val = C) (hne : C ≠ 0) :
 KeepsFrom B W ((w1.setCell ⟨w.heap.size, 0, none⟩ (.slice none 0 0)).setCell ⟨w.heap.size + 1, 0, none⟩ (.int .i64 C)) ∧ OutV ls N w .ret (pre ++ [x]) ((w1.setCell ⟨w.heap.size, 0, none⟩ (.slice none 0 0)).setCell ⟨w.heap.size + 1, 0, none⟩ (.int .i64 C)) := by
 refine ⟨hK.trans (((KeepsOthers.setCell _ _ _).trans (KeepsOthers.setCell _ _ _)).from _), ⟨rfl, pre, x, rfl, h0, by rw [hC]; exact hne, trivial⟩, ⟨(j3.set _).other (by omega) _, pre, x, rfl, ?_⟩, (hb.setCell (p := ⟨w.heap.size, 0, none⟩) (Nat.le_refl _) _).setCell (p := ⟨w.heap.size + 1, 0, none⟩) (Nat.le_succ _) _⟩
 rw [hC]
 exact (j4.other (by omega) _).set _
set_option maxRecDepth 100000 in
set_option maxHeartbeats 4000000 in
theorem cver_in (B : Nat) (u : Value) (ls : List LinkG) (w : World) (hu : SeesR w B u 3 ls.length (linkS ls)) (hB : B ≤ w.heap.size) (hn : ls.length ≤ 8) (hl : ∀ t ∈ ls, t.2.2.length ≤ 1048576) :
 CallsIn Fence.wide 3 Tryz.prog 59 #[u] w (CVerP ls w) := by
 obtain ⟨A, c, rfl, -, -⟩ := hu.mk_
 obtain ⟨cv, b, o, hnc, hA, hcell, hsl, hk3⟩ := row_cells hu rfl
 have hCC : Hid (cverC ls = firstC ls ls.length) := by show _ = _; rw [cverC, if_neg (by omega)]
 have i8 : ¬ (8 : Int) < (ls.length : Int) := by omega
 generalize hN : ls.length = N at *
 refine callsIn_of_wp_marks Tryz.func59 rfl trivial ?_ rfl
 simp only [Tryz.ntmps59, List.size_toArray, List.length_cons, List.length_nil, Nat.reduceAdd, Nat.reduceSub, Array.replicate_succ, Array.replicate_zero, List.push_toArray, List.append_toArray, List.nil_append, List.cons_append]
 gi_wp2
 have hb3 := bgo (bgo (balloc w (.cells #[.slice none 0 0] 28)) (balloc _ (.cells #[.int .i64 0] 31))) (balloc _ (.cells #[.slice none 0 0] 28))
 have hx0 : Boxed (((w.alloc (.cells #[.slice none 0 0] 28)).alloc (.cells #[.int .i64 0] 31)).alloc (.cells #[.slice none 0 0] 28)) w.heap.size 28 (.slice none 0 0) := ((Boxed.new w _ _).alloc _).alloc _
 have hx1 := (Boxed.new (w.alloc (.cells #[.slice none 0 0] 28)) 31 (.int .i64 0)).alloc (.cells #[.slice none 0 0] 28)
 have hx2 := Boxed.new ((w.alloc (.cells #[.slice none 0 0] 28)).alloc (.cells #[.int .i64 0] 31)) 28 (.slice none 0 0)
 rw [World.size_alloc] at hx1
 rw [World.size_alloc, World.size_alloc] at hx2
 generalize ((w.alloc (.cells #[.slice none 0 0] 28)).alloc (.cells #[.int .i64 0] 31)).alloc (.cells #[.slice none 0 0] 28) = W3 at *
 refine ⟨trivial, (callsIn_wide.2 (followed_any _ _ _ _)).mono ?_⟩
 rintro e w' ⟨rfl, rfl⟩
 dsimp only
 gi_wp2
 have hal := balloc W3 (.cells #[.slice A N c] 26)
 have hx3 := Boxed.new W3 26 (.slice A N c)
 have hx0' := hx0.alloc (.cells #[.slice A N c] 26)
 have hx1' := hx1.alloc (.cells #[.slice A N c] 26)
 have hx2' := hx2.alloc (.cells #[.slice A N c] 26)
 have hb4 := bgo hb3 hal
 have hGn := Lib.hid hx2.lt
 clear hx0 hx1 hx2 hb3 hal
 generalize W3.alloc (.cells #[.slice A N c] 26) = W4 at *
 generalize W3.heap.size = G at *
 refine wpIn_rangeFunc_ownH (α := Fin N) rfl (by omega) (gf := 183) (lb := #[.pointer (some ⟨G, 0, none⟩)]) rfl trivial (enters_of Tryz.func183 (by kernel_rfl) rfl)
  (followed_stops 2 (by omega) G w.heap.size b o c N A cv hn hnc (fun h => ⟨(hA h).1, by have := (hA h).2; omega⟩) W4 hx3.lt hb4.size (fun j hj => (hb4.cell (p := ⟨b, o + j, none⟩) (show b < w.heap.size by have := (hA (by omega)).2; omega)).trans (hcell j hj)) hsl hx3.cell) K2.trans (fun W l o o' hl ho h1 h2 => ⟨belowK_b (w := W4) hb4.size W l o o' hl ho h1 h2, fun hG => World.putObj_heap_other (by have := hx3.lt; omega)⟩) (Below.refl _ _) (fun _ => rfl)
  (InvV ls N w A c G W4.heap.size) (OutV ls N w)
  (OwnFrom.and (Own.from (holdsRow_own w.heap.size (w.heap.size + 1 + 1) 28 23 2 (fun pre : List (Fin N) => pre.length) (fun pre => spanC2 (spansOf ls pre)) (fun _ _ => True)) _)
   (OwnFrom.and (OwnFrom.and (Own.from (boxed_own _ _ _) _) (OwnFrom.and (Own.from (boxed_own _ _ _) _) (Own.from (boxed_own _ _ _) _))) (OwnFrom.and (ownFrom_below (Nat.le_refl _) hb4.size) (OwnFrom.and (ownFrom_pure _ _) (fun s X Y row hs hg _ => Nat.le_trans hs hg.size)))))
  (fun cd => OwnFrom.and (ownFrom_pure _ _) (OwnFrom.and (OwnFrom.and (Own.from (boxed_own _ _ _) _)
   (fun s X Y row hs hg hrow => by obtain ⟨qs, x, e, hx⟩ := hs; exact ⟨qs, x, e, Own.from (boxed_own (w.heap.size + 1) 31 (fun v : Value => v)) W4.heap.size _ X Y row hx hg hrow⟩)) (ownFrom_below (Nat.le_refl _) hb4.size)))
  ⟨⟨_, hx2', World.ownsRow_nil _ _ _ _, trivial⟩, ⟨hx0', hx1', hx3⟩, hb4, (fun x hx => by cases hx), Nat.le_refl _⟩ (AxV cv A c G N w) (fun x a' => cells_own _ _ _ _) ?assign ?body ?done ?stop
 case assign =>
  intro l pre x W K hI hK
  obtain ⟨P0, q0, r0, y0⟩ := hsl (x.val * 3) (by have := x.isLt; omega)
  obtain ⟨P1, q1, r1, y1⟩ := hsl (x.val * 3 + 1) (by have := x.isLt; omega)
  obtain ⟨P2, q2, r2, y2⟩ := hsl (x.val * 3 + 2) (by have := x.isLt; omega)
  have hK2 := Lib.hid (fun g (W' : World) (h1 : KeepsFrom W4.heap.size W W') (h2 : K2 w.heap.size G W W') (h3 : InvV ls N w A c G W4.heap.size pre W') (h4 : W'.heap[g]? = some (.cells #[cv (x.val * 3), cv (x.val * 3 + 1), cv (x.val * 3 + 2)] 101)) => hK _ W' h1 h2 h3 ⟨g, h4, rfl⟩)
  clear hK
  rw [y0, y1, y2] at hK2
  unfold encK
  rw [y0, y1, y2]
  generalize lastV cv x.val = LV at *
  gi_wp2
  have hal := balloc W (.cells #[.slice P0 q0 r0, .slice P1 q1 r1, .slice P2 q2 r2] 101)
  obtain ⟨⟨v, i1, i2, -⟩, ⟨i3, i4, i9⟩, i5, i6, i7⟩ := hI
  exact hK2.out _ _ (keeps_below hal) (K2.of_below hal i5.size) ⟨⟨v, i1.alloc _, i2.alloc _, trivial⟩, ⟨i3.alloc _, i4.alloc _, i9.alloc _⟩, bgo i5 hal, i6, Nat.le_trans i7 hal.size⟩ (World.alloc_heap_new W _)
 case body =>
  rintro l pre x a' W hzl ⟨r, hr⟩ ⟨⟨v, i1, i2, -⟩, ⟨i3, i4, i9⟩, i5, i6, i7⟩ ⟨g, hg, rfl⟩ hlt
  have hx := x.isLt
  obtain ⟨P0, q0, r0, y0⟩ := hsl (x.val * 3) (by omega)
  obtain ⟨P1, q1, r1, y1⟩ := hsl (x.val * 3 + 1) (by omega)
  obtain ⟨P2, q2, r2, y2⟩ := hsl (x.val * 3 + 2) (by omega)
  obtain ⟨s0, s1, s2⟩ := hk3 x.val hx
  have s3 := last_sees hN (fun k hk => (hk3 k hk).2.2) x.val hx
  have hiB := i5.mono hB
  have hBW : B ≤ W.heap.size := Nat.le_trans hB i5.size
  replace s0 := (s0.below hiB).more hBW
  replace s1 := (s1.below hiB).more hBW
  replace s2 := (s2.below hiB).more hBW
  replace s3 := (s3.below hiB).more hBW
  have hal := hl _ (List.mem_of_getElem? (show ls[x.val]? = some (linkT ls x.val) by rw [linkT, List.getD_eq_getElem?_getD, List.getElem?_eq_getElem (by omega)]; rfl))
  have hLC : Hid (linkC ls x.val = if nonceC (lastA (ls.take x.val)) (linkT ls x.val).2.1 = 0 then dverC (linkT ls x.val).1 (linkN ls x.val) (linkT ls x.val).2.2 else nonceC (lastA (ls.take x.val)) (linkT ls x.val).2.1) := rfl
  have hNN : Hid (linkN ls x.val = nonceG (lastA (ls.take x.val)) (linkT ls x.val).2.1) := rfl
  have hLV : Hid (linkV ls x.val = (dverLo (linkT ls x.val).1 (linkN ls x.val) (linkT ls x.val).2.2, dverHi (linkT ls x.val).1 (linkN ls x.val) (linkT ls x.val).2.2)) := rfl
  rw [y0] at s0
  rw [y1] at s1
  rw [y2] at s2
  rw [y0, y1, y2] at hg ⊢
  generalize lastV cv x.val = LV at *
  have hno := nonce_any W.heap.size W.heap.size _ _ _ _ W s3 (Nat.le_refl _) s1 (Nat.le_refl _)
  unfold NonP at hno
  rw [← hNN.out] at hno
  generalize linkT ls x.val = t at *
  generalize linkN ls x.val = NN at *
  generalize nonceC (lastA (ls.take x.val)) t.2.1 = C1 at *
  obtain ⟨t1, t2, t3⟩ := t
  dsimp only at *
  have z1 : W.cell? ⟨g, 1, none⟩ = some (.slice P1 q1 r1) := by simp [World.cell?, hg]
  replace hno := Lib.hid hno
  have z0 : W.heap[g]? = some (.cells #[.slice P0 q0 r0, .slice P1 q1 r1, .slice P2 q2 r2] 101) := hg
  have hgl : g < W.heap.size := (Array.getElem?_eq_some_iff.1 z0).1
  clear hk3 hsl hcell hA s3 hu hx0' hx1' hx2' hx3
  gi_wp2
  refine ⟨trivial, CallsIn.inRound l ((callsIn_wide.2 hno.out).mono ?_)⟩
  rintro e w1 ⟨v1, rfl, f1, hb1⟩
  obtain ⟨Q1, d1, rfl, -, -⟩ := f1.sees.mk_
  have j3 : Boxed w1 w.heap.size 28 (.slice none 0 0) := (hb1.block _ i3.lt).trans i3
  have j4 : Boxed w1 (w.heap.size + 1) 31 (.int .i64 0) := (hb1.block _ i4.lt).trans i4
  have j1 : Boxed w1 (w.heap.size + 1 + 1) 28 v := (hb1.block _ i1.lt).trans i1
  have j2 := own_below i2 hb1
  have zz := (hb1.block _ hgl).trans z0
  replace s0 := seesB_of s0 (Nat.le_refl _) hb1
  replace s2 := seesB_of s2 (Nat.le_refl _) hb1
  have hbW := Lib.hid (bgo i5 hb1)
  clear hno z1 z0 hg
  by_cases hC : C1 = 0
  rotate_left
  · have c3 := j3.cell
    have c4 := j4.cell
    have d3 := j3.frozen
    have d4 := j4.frozen
    have hC' : Hid (linkC ls x.val = C1) := by show _ = _; rw [hLC.out, if_neg hC]
    have hne : Hid (C1 ≠ 0) := hC
    replace j3 := Lib.hid j3
    replace j4 := Lib.hid j4
    replace hb1 := Lib.hid hb1
    clear hLC hLV hNN
    gi_wp2
    exact outV_of j3.out j4.out (keeps_below hb1.out) hbW.out i6 hC'.out hne.out
  subst hC
  have hdv := dverify_any w1.heap.size _ _ _ t1 NN t3 w1 s0 f1.sees s2 (Nat.le_refl _) hal
  rw [if_pos rfl] at hLC
  generalize hC2 : dverC t1 NN t3 = C2 at *
  unfold DVerP at hdv
  rw [hC2] at hdv
  generalize dverLo t1 NN t3 = lo at *
  generalize dverHi t1 NN t3 = hi at *
  replace hdv := Lib.hid hdv
  have z0 : w1.cell? ⟨g, 0, none⟩ = some (.slice P0 q0 r0) := by simp [World.cell?, zz]
  have z2 : w1.cell? ⟨g, 2, none⟩ = some (.slice P2 q2 r2) := by simp [World.cell?, zz]
  clear s0 s2 f1 hNN hC2 zz
  gi_wp2
  refine ⟨trivial, CallsIn.inRound l ((callsIn_wide.2 hdv.out).mono ?_)⟩
  rintro e w2 ⟨rfl, hb2⟩
  have hal2 := balloc w2 (.cells #[.int .i64 lo, .int .i64 hi] 23)
  have hb3 := bgo hb2 hal2
  have k3 : Boxed (w2.alloc (.cells #[.int .i64 lo, .int .i64 hi] 23)) w.heap.size 28 (.slice none 0 0) := (hb3.block _ j3.lt).trans j3
  have k4 : Boxed (w2.alloc (.cells #[.int .i64 lo, .int .i64 hi] 23)) (w.heap.size + 1) 31 (.int .i64 0) := (hb3.block _ j4.lt).trans j4
  have k1 : Boxed (w2.alloc (.cells #[.int .i64 lo, .int .i64 hi] 23)) (w.heap.size + 1 + 1) 28 v := (hb3.block _ j1.lt).trans j1
  have k2 := own_below j2 hb3
  have hbW3 := Lib.hid (bgo hbW.out hb3)
  have hb13 := Lib.hid (bgo hb1 hb3)
  obtain ⟨x0, x1⟩ := boxT2 (Box.new w2 23 [.int .i64 lo, .int .i64 hi])
  change (w2.alloc (.cells #[.int .i64 lo, .int .i64 hi] 23)).cell? _ = _ at x0 x1
  clear hdv z0 z2 j1 j2 j3 j4 hbW hb1 hb2 hb3 hal2
  dsimp only
  gi_upto_region 11 with (fail)
  generalize w2.alloc (.cells #[.int .i64 lo, .int .i64 hi] 23) = W5 at *
  generalize w2.heap.size = gz at *
  by_cases hC : C2 = 0
  rotate_left
  · have c3 := k3.cell
    have c4 := k4.cell
    have d3 := k3.frozen
    have d4 := k4.frozen
    have hne : Hid (C2 ≠ 0) := hC
    replace k3 := Lib.hid k3
    replace k4 := Lib.hid k4
    clear hLV
    gi_wp2
    exact outV_of k3.out k4.out (keeps_below hb13.out) hbW3.out i6 hLC.out hne.out
  subst hC
  have hc1 := k1.cell
  obtain ⟨ti, hti, htz, hts, htb⟩ := info_parts span_info
  replace hti := Lib.hid hti
  replace htz := Lib.hid htz
  replace hts := Lib.hid hts
  replace htb := Lib.hid htb
  replace k3 := Lib.hid k3
  replace k4 := Lib.hid k4
  replace k1 := Lib.hid k1
  have hrow := Lib.hid (k2.alloc (.cells #[.int .i64 lo, .int .i64 hi] 23))
  replace k2 := Lib.hid k2
  have hpl : Hid (pre.length ≤ 8) := by show _ ≤ _; omega
  have hsz : Hid (w.heap.size ≤ W5.heap.size) := hbW3.out.size
  gi_wp2_with (gi_at_builtin; refine wpListIn_append_own_at _ rfl (.tmp 39) (.tmp 41) 28 rfl w.heap.size 23 ti (.agg #[.int .i64 0, .int .i64 0]) 2 16 Tryz.underlying28 hti.out htz.out hts.out htb.out rfl (by decide) v pre.length (spanC2 (spansOf ls pre)) rfl hrow.out ⟨W5.heap.size, 0, none⟩ 1 1 [.int .i64 lo, .int .i64 hi] rfl rfl (cells_two _ _ _ _) (by simp [Value.oneCell']) (by have := hpl.out; unfold maxLen; omega) (by have := hpl.out; omega) (Nat.le_trans hsz.out (by simp)) ?_; intro v' w6 hown' hgrow _ _; obtain ⟨g', cap', rfl⟩ := ownsRow_succ hown'; obtain ⟨hv1, hv2, hr2, hk2, hb2⟩ := k1.out.appended (by decide) k2.out hsz.out (Nat.le_trans (Nat.le_succ _) (Nat.le_succ _)) hown' hgrow; have hc6 := hv1.cell; have hf6 := hv1.frozen)
  have hsp : Hid (spansOf ls (pre ++ [x]) = spansOf ls pre ++ [(lo, hi)]) := by show _ = _; rw [spansOf, List.map_append, ← hLV.out]; rfl
  have hlen : (pre ++ [x]).length = pre.length + 1 := by simp
  have m5 : Boxed W5 G 26 (.slice A N c) := (hb13.out.block _ i9.lt).trans i9
  have q9 := ((m5.alloc (.cells #[.int .i64 lo, .int .i64 hi] 23)).kept hgrow (m5.not_row (by decide) k2.out)).other (B' := w.heap.size + 1 + 1) (by have := hGn.out; omega) (.slice (some ⟨g', 0, none⟩) (pre.length + 1) cap')
  have q3 := ((k3.out.alloc (.cells #[.int .i64 lo, .int .i64 hi] 23)).kept hgrow (k3.out.not_row (by decide) k2.out)).other (B' := w.heap.size + 1 + 1) (by omega) (.slice (some ⟨g', 0, none⟩) (pre.length + 1) cap')
  have q4 := ((k4.out.alloc (.cells #[.int .i64 lo, .int .i64 hi] 23)).kept hgrow (k4.out.not_row (by decide) k2.out)).other (B' := w.heap.size + 1 + 1) (by omega) (.slice (some ⟨g', 0, none⟩) (pre.length + 1) cap')
  refine ⟨(keeps_below hb13.out).trans (hk2.from _), (K2.of_below hb13.out i5.size).trans ⟨hb2, fun hG => q9.trans m5.symm⟩, ⟨_, hv2, ?_, trivial⟩, ⟨q3, q4, q9⟩, hbW3.out.trans hb2, fun y hy => ?_, Nat.le_trans i7 (Nat.le_trans hb13.out.size hb2.size)⟩
  · rw [hsp.out, hlen]
    have e : spanC2 (spansOf ls pre ++ [(lo, hi)]) = spanC2 (spansOf ls pre) ++ [.int .i64 lo, .int .i64 hi] := by simp [spanC2]
    rw [e]
    exact hr2
  · rcases List.mem_append.1 hy with h | h
    · exact i6 y h
    · obtain rfl := List.mem_singleton.1 h
      exact hLC.out
 case done =>
  rintro D xs W hD rfl ⟨⟨v, i1, i2, -⟩, ⟨i3, i4, i9⟩, i5, i6, i7⟩ hK
  rw [finT_len N N (Nat.le_refl _), show spansOf ls (finT N N) = cverK ls N from finT_map N _] at i2
  have hz : cverC ls = 0 := by rw [hCC.out]; exact first_all ls N fun j hj => i6 _ (finT_mem N N j (Nat.le_refl _) hj)
  obtain ⟨A', c', rfl, -, -⟩ := (Sees.of_own i2).mk_
  have c1 := i1.cell
  have c3 := i3.cell
  have c4 := i4.cell
  have d3 := i3.frozen
  have d4 := i4.frozen
  have hD0 : W4.heap.size ≤ D := hD
  have hg4 := hb4.size
  have n0 := hGn.out
  have n1 := hx3.lt
  replace i1 := Lib.hid i1
  replace i2 := Lib.hid i2
  replace i3 := Lib.hid i3
  replace i4 := Lib.hid i4
  replace hz := Lib.hid hz
  clear hu hcell hsl hk3 hA i6 i9 i7
  gi_wp2
  have hne0 : D ≠ w.heap.size := by omega
  have hne1 : D ≠ w.heap.size + 1 := by omega
  have hK' : ((W.setCell ⟨w.heap.size, 0, none⟩ (.slice A' N c')).setCell ⟨w.heap.size + 1, 0, none⟩ (.int .i64 0)).heap[D]? = some (.deferred (some [])) := by
   rw [Below.heap_setCell _ ⟨w.heap.size + 1, 0, none⟩ _ D hne1, Below.heap_setCell _ ⟨w.heap.size, 0, none⟩ _ D hne0]
   exact hK
  have hbS : Below w.heap.size w ((W.setCell ⟨w.heap.size, 0, none⟩ (.slice A' N c')).setCell ⟨w.heap.size + 1, 0, none⟩ (.int .i64 0)) := (i5.setCell (p := ⟨w.heap.size, 0, none⟩) (Nat.le_refl _) _).setCell (p := ⟨w.heap.size + 1, 0, none⟩) (Nat.le_succ _) _
  have y3 : Boxed ((W.setCell ⟨w.heap.size, 0, none⟩ (.slice A' N c')).setCell ⟨w.heap.size + 1, 0, none⟩ (.int .i64 0)) w.heap.size 28 (.slice A' N c') := (i3.out.set _).other (by omega) _
  have y4 : Boxed ((W.setCell ⟨w.heap.size, 0, none⟩ (.slice A' N c')).setCell ⟨w.heap.size + 1, 0, none⟩ (.int .i64 0)) (w.heap.size + 1) 31 (.int .i64 0) := (i4.out.other (by omega) _).set _
  have y2 := ownsRow_setCell_other (ownsRow_setCell_other i2.out (a := ⟨w.heap.size, 0, none⟩) (fun e => i3.out.not_row (by decide) i2.out e.symm) (.slice A' N c')) (a := ⟨w.heap.size + 1, 0, none⟩) (fun e => i4.out.not_row (by decide) i2.out e.symm) (.int .i64 0)
  generalize (W.setCell ⟨w.heap.size, 0, none⟩ (.slice A' N c')).setCell ⟨w.heap.size + 1, 0, none⟩ (.int .i64 0) = W6 at *
  refine ⟨by simp, .inl ⟨_, _, rfl, run_takeDeferred hK', ?_⟩⟩
  have u3 : Boxed (W6.putObj D (.deferred none)) w.heap.size 28 (.slice A' N c') := (World.putObj_heap_other (fun e => hne0 e.symm)).trans y3
  have u4 : Boxed (W6.putObj D (.deferred none)) (w.heap.size + 1) 31 (.int .i64 0) := (World.putObj_heap_other (fun e => hne1 e.symm)).trans y4
  have u2 := ownsRow_putObj y2 (.deferred none) hK' rfl
  have hbT : Below w.heap.size w (W6.putObj D (.deferred none)) := hbS.trans (belowK_b (w := w) (Nat.le_refl _) W6 D _ _ (by omega) hK' rfl rfl)
  generalize W6.putObj D (.deferred none) = W7 at *
  have z3 := u3.cell
  have z4 := u4.cell
  refine ⟨.tuple #[.slice A' N c', .int .i64 0], by simp [results, Tryz.results59, go_sem, z3, z4], ?_⟩
  exact cver_ok hz.out (by rw [hN]; exact spanC2_row u2 (cverK_len _ _)) hbT
 case stop =>
  rintro D cd pre W hD ⟨k, hk, rfl⟩ ⟨⟨rfl, qs, x, e1, e2, e3, -⟩, ⟨i3, qs', x', e4, i4⟩, i5⟩ hK
  rw [e1] at e4
  obtain ⟨rfl, hx'⟩ := List.append_inj' e4 rfl
  obtain rfl := List.singleton_inj.1 hx'
  clear e4 hx'
  have hz : cverC ls = linkC ls x.val := by
   have hkl : k = qs.length + 1 := by have := congrArg List.length e1; rw [finT_len N k hk, List.length_append] at this; exact this
   have hxv : x.val = qs.length := by
    have h1 : (finT N k)[qs.length]? = (qs ++ [x])[qs.length]? := by rw [e1]
    rw [List.getElem?_append_right (Nat.le_refl _), Nat.sub_self, finT, List.getElem?_take, if_pos (by omega), List.getElem?_eq_getElem (by simp; omega)] at h1
    simp at h1
    rw [← h1]
   have hpre : firstC ls x.val = 0 := first_all ls x.val fun j hj => by
    have hm := finT_mem N k j hk (by omega)
    rw [e1] at hm
    rcases List.mem_append.1 hm with h | h
    · exact e2 _ h
    · have := List.mem_singleton.1 h
      rw [← this] at hj
      exact absurd hj (Nat.lt_irrefl _)
   rw [hCC.out]
   exact first_bad ls x.val N hpre e3 x.isLt
  generalize linkC ls x.val = C at *
  have c3 := i3.cell
  have c4 := i4.cell
  have hD0 : W4.heap.size ≤ D := hD
  have hg4 := hb4.size
  have n0 := hGn.out
  have n1 := hx3.lt
  replace hz := Lib.hid hz
  replace e3 := Lib.hid e3
  replace i3 := Lib.hid i3
  replace i4 := Lib.hid i4
  clear hu hcell hsl hk3 hA e1 e2
  gi_wp2
  have hne0 : D ≠ w.heap.size := by omega
  have hne1 : D ≠ w.heap.size + 1 := by omega
  refine ⟨by simp, .inl ⟨_, _, rfl, run_takeDeferred hK, ?_⟩⟩
  have u3 : Boxed (W.putObj D (.deferred none)) w.heap.size 28 (.slice none 0 0) := (World.putObj_heap_other (fun e => hne0 e.symm)).trans i3.out
  have u4 : Boxed (W.putObj D (.deferred none)) (w.heap.size + 1) 31 (.int .i64 C) := (World.putObj_heap_other (fun e => hne1 e.symm)).trans i4.out
  have hbT : Below w.heap.size w (W.putObj D (.deferred none)) := i5.trans (belowK_b (w := w) (Nat.le_refl _) W D _ _ (by omega) hK rfl rfl)
  generalize W.putObj D (.deferred none) = W7 at *
  have z3 := u3.cell
  have z4 := u4.cell
  exact ⟨.tuple #[.slice none 0 0, .int .i64 C], by simp [results, Tryz.results59, go_sem, z3, z4], cver_bad hz.out e3.out hbT⟩
set_option maxRecDepth 100000 in
theorem cverify_any (B : Nat) (u : Value) (ls : List LinkG) (w : World) (hu : SeesR w B u 3 ls.length (linkS ls)) (hB : B ≤ w.heap.size) (hn : ls.length ≤ 1048576) (hl : ∀ t ∈ ls, t.2.2.length ≤ 1048576) :
 Calls Tryz.prog 59 #[u] w (CVerP ls w) := by
 by_cases h8 : ls.length ≤ 8
 · exact callsIn_wide.1 (cver_in B u ls w hu hB h8 hl)
 · obtain ⟨A, c, rfl, -, -⟩ := hu.mk_
   have i0 : (8 : Int) < (ls.length : Int) := by omega
   have hC : Hid (cverC ls = 8) := by show _ = _; rw [cverC, if_pos (by omega)]
   clear hu hl
   go_enter Tryz.func59, Tryz.ntmps59
   go_wp2_with fail
   have hb8 := bgo (balloc w (.cells #[.slice none 0 0] 28)) (balloc _ (.cells #[.int .i64 8] 31))
   have z3 := ((Boxed.new w 28 (.slice none 0 0)).alloc (.cells #[.int .i64 8] 31)).cell
   have z4 := (Boxed.new (w.alloc (.cells #[.slice none 0 0] 28)) 31 (.int .i64 8)).cell
   rw [World.size_alloc] at z4
   generalize (w.alloc (.cells #[.slice none 0 0] 28)).alloc (.cells #[.int .i64 8] 31) = W7 at *
   refine bodyPost_ret (v := .tuple #[.slice none 0 0, .int .i64 8]) (by simp [results, Tryz.results59, go_sem, z3, z4]) rfl ?_
   exact cver_bad hC.out (by decide) hb8
end Go.Proofs.YtgehkgjllhkhoaaGreat

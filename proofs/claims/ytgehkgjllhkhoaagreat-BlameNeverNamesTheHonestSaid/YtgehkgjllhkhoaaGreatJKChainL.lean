/- What a law leans on beyond the base: contracts, plain functions, walks. Conditions: those of each theorem. -/
import Derived.Test.YtgehkgjllhkhoaaGreatJTape
import Derived.Test.YtgehkgjllhkhoaaGreatH29
set_option linter.unusedVariables false
set_option linter.unusedSimpArgs false
namespace Go.Proofs.YtgehkgjllhkhoaaGreat
open Go Go.RowKit
set_option linter.unusedVariables false
theorem grant_two {sd p : Bs} {n f t : Int} (h1 : sd.length = 32) (h2 : p.length = 32) (h3 : vS f t = true) (n0 : 0 ≤ n) (n1 : n < 2) : grantR sd 1 n p f t = ((sd, 1, n + 1), (p, f, t, sigG sd 1 n.toNat (tGrant ++ p ++ spanB f t)), 0) := by
 have hv : validI sd 1 n = true := by
  unfold validI
  rw [decide_eq_true h1, decide_eq_true n0, decide_eq_true (show n ≤ 2 ^ (1 : Int).toNat by show n ≤ 2; omega)]
  rfl
 have hs : ∀ m, signAll sd 1 n m = (sd, 1, n + 1, sigG sd 1 n.toNat m, 0) := fun m => by
  unfold signAll
  rw [if_pos hv, if_neg (show ¬ n = 2 ^ (1 : Int).toNat by show ¬ n = 2; omega)]
  rfl
 unfold grantR
 rw [if_pos hv, if_pos h2, if_pos h3, hs]
 rfl
theorem lastA_len (ls : List (Bs × Bs × Bs)) (h : ∀ t ∈ ls, t.1.length = 32 ∧ t.2.1.length = 32 ∧ t.2.2.length ≤ 2048) : (lastA ls).length ≤ 2048 := by
 unfold lastA
 cases e : ls.getLast? with
 | none => simp
 | some t => exact (h t (List.mem_of_getLast? e)).2.2
theorem next_zero {ls : List (Bs × Bs × Bs)} {x : Bs} (h : ∀ t ∈ ls, t.1.length = 32 ∧ t.2.1.length = 32 ∧ t.2.2.length ≤ 2048) (hn : ls.length < 8) (hx : x.length = 32) : nextC ls x = 0 ∧ (nextG ls x).length = 32 := by
 have h1 := lastA_len ls h
 have hc : nonceC (lastA ls) x = 0 := by rw [nonceC, if_neg (by omega), if_pos hx]
 refine ⟨by rw [nextC, if_neg (by omega), hc], ?_⟩
 rw [nextG, if_neg (by omega), nonceG, if_pos hc]
 exact sha_len _
theorem wpList_appRF {ops : Array Oper} {rest : List Oper} {o : Oper} {a : Act} {w : World} {Q : Exit → Act → World → Prop} (hgd : Region.wanted o (yielded ops a.tmps) = true) (s x : Operand) (T E : TypeId) (hT : Tryz.prog.underlying T = some (.slice E))
 (ho : o.op = .call { callee := .builtin .append, args := #[s, x], argTypes := #[T, T] }) (i : TypeInfo) (z : Value) (size bytes : Nat) (hi : Tryz.prog.info? E = some i) (hz : i.zero = some z)
 (hsz : i.size = size) (hby : i.bytes = bytes) (hzs : z.cells.size = size) (h0 : 0 < size) (hby2 : bytes ≤ 1024)
 (base : Nat) (v : Value) (n : Nat) (ss : List Spec) (hs : a.eval s = v) (hown : OwnRF w base E v size n ss) (B : Nat) (u : Value) (m : Nat) (vs : List Value) (ts : List Spec) (hx : a.eval x = u) (hr : Sees w B u size m vs)
 (htl : ts.length = m * size) (hel : ∀ (k : Nat) (t : Spec), ts[k]? = some t → ∃ y, vs[k]? = some y ∧ EltS w v y t ∧ From base y)
 (hlen : n + m ≤ 1048576) (hbase : base ≤ w.heap.size)
 (h : ∀ v' w', OwnRF w' base E v' size (n + m) (ss ++ ts) → Below base w w' → wpList Tryz.prog ops Q rest (a.put o.dst v') w') : wpList Tryz.prog ops Q (o :: rest) a w :=
 BigFrame.wpList_want hgd fun _ hK => wp_appRF s x T E hT ho i z size bytes hi hz hsz hby hzs h0 hby2 base v n ss hs hown B u m vs ts hx hr htl hel hlen hbase fun v' w' h2 h3 _ => hK _ _ (h v' w' h2 h3)
set_option linter.unusedSimpArgs false
attribute [local go_sem ↓] Go.wp_at_zero Go.wp_at_succ
def KeyPostF (seed : Bs) (h : Int) (w : World) (e : Ending) (w' : World) : Prop :=
 ∃ v, e = .returned (.tuple #[v, .int .i64 (pubC seed h)]) ∧ SeesB w' w'.heap.size v (pubG seed h) ∧ From w.heap.size v ∧ Below w.heap.size w w'
set_option maxRecDepth 100000 in
theorem rpublicF_any (B : Nat) (u : Value) (seed : Bs) (h : Int) (w : World) (hu : SeesB w B u seed) (hB : B ≤ w.heap.size) (hl : seed.length = 32) (hh : 0 ≤ h ∧ h ≤ 6) :
 Calls Tryz.prog 68 #[u, .int .i64 h] w (KeyPostF seed h w) := by
 obtain ⟨h0, h1⟩ := hh
 obtain ⟨k, rfl⟩ := Int.eq_ofNat_of_zero_le h0
 have hc := rleaves_any B u seed k w hu hB hl (by omega)
 have hv : Hid (pubC seed k = 0) := by show _ = _; simp [pubC, hl]; omega
 have hv2 : Hid (pubG seed k = keyG seed k) := by show _ = _; simp [pubG, hl]; omega
 have j0 : decide ((k : Int) < 0) = false := by simp
 have j1 : ¬ ((6 : Int) < (k : Int)) := by omega
 replace hc : Hid (Calls _ _ _ _ (GivesL (leavesL seed (2 ^ k)) w)) := hc
 have hlen := leavesL_len seed (2 ^ k)
 have hp := pow_le64 k (by omega)
 have hel := Lib.hid (leavesL_el seed (2 ^ k))
 obtain ⟨A, c, rfl, -, -⟩ := hu.mk_
 rw [hl] at hc ⊢
 clear hu hl
 rw [← key_root] at hv2
 generalize leavesL seed (2 ^ k) = ls at *
 go_enter Tryz.func68, Tryz.ntmps68
 go_wp2_with fail
 refine hc.out.mono ?_
 rintro e w1 ⟨v, rfl, k1, hb1⟩
 dsimp only
 go_wp2_with fail
 refine (rroot_top ls _ _ _ k1.sees (Nat.le_refl _) (by omega) (fun l hx => by have := hel.out l hx; omega)).mono ?_
 rintro e w2 ⟨v2, rfl, h2, hb2⟩
 dsimp only
 go_wp2_with fail
 go_returns
 exact ⟨v2, by rw [hv.out]; rfl, by rw [hv2.out]; exact h2.sees, h2.from.mono hb1.size, bgo hb1 hb2⟩
set_option linter.unusedSimpArgs false
attribute [local go_sem ↓] Go.wp_at_zero Go.wp_at_succ
theorem sees_s3 {W : World} {g : Nat} {T : TypeId} {a b c u : Value} {l : Bs} (h : Box W g T [a, b, c]) (n : NoByte [a, b, c]) (x y z : Value) (hs : SeesB W W.heap.size u l) : SeesB (((W.setCell ⟨g, 0, none⟩ x).setCell ⟨g, 1, none⟩ y).setCell ⟨g, 2, none⟩ z) (((W.setCell ⟨g, 0, none⟩ x).setCell ⟨g, 1, none⟩ y).setCell ⟨g, 2, none⟩ z).heap.size u l := by
 have hz : (((W.setCell ⟨g, 0, none⟩ x).setCell ⟨g, 1, none⟩ y).setCell ⟨g, 2, none⟩ z).heap.size = W.heap.size := by simp [World.setCell]
 rw [hz]
 exact hs.over (Nat.le_refl _) h n (ggo (ggo (setCell_grown W g 0 x) (setCell_grown _ g 1 y)) (setCell_grown _ g 2 z))
def HonK (ls : List LinkG) (k : Nat) (lo hi : Int) : Prop :=
 ∃ (sd sd2 : Bs) (m : Int), sd.length = 32 ∧ sd2.length = 32 ∧ 0 ≤ m ∧ m < 2 ∧ (linkT ls k).1 = pubG sd 1 ∧ (linkT ls k).2.1.length = 32 ∧
  dansR sd2 0 0 (pubG sd2 0) (-1099511627776) 1099511627776 (sigG sd 1 m.toNat (tGrant ++ pubG sd2 0 ++ spanB (-1099511627776) 1099511627776)) [nextG (ls.take k) (linkT ls k).2.1] lo hi =
   (((sd2, 0, 1), (pubG sd2 0, -1099511627776, 1099511627776, sigG sd 1 m.toNat (tGrant ++ pubG sd2 0 ++ spanB (-1099511627776) 1099511627776))), [(linkT ls k).2.2], 0)
theorem HonK.snoc {ls : List LinkG} {t : LinkG} {k : Nat} {lo hi : Int} (hk : k < ls.length) (h : HonK ls k lo hi) : HonK (ls ++ [t]) k lo hi := by
 have e1 : linkT (ls ++ [t]) k = linkT ls k := by
  unfold linkT
  rw [List.getD_eq_getElem?_getD, List.getD_eq_getElem?_getD, List.getElem?_append_left hk]
 have e2 : (ls ++ [t]).take k = ls.take k := List.take_append_of_le_length (Nat.le_of_lt hk)
 unfold HonK
 rw [e1, e2]
 exact h
theorem HonK.last {ls : List LinkG} {pk bl y sd sd2 : Bs} {m lo hi : Int} {k : Nat} (hk : ls.length = k) (h1 : sd.length = 32) (h2 : sd2.length = 32) (h3 : 0 ≤ m) (h4 : m < 2) (h5 : pk = pubG sd 1) (h6 : bl.length = 32)
 (h7 : dansR sd2 0 0 (pubG sd2 0) (-1099511627776) 1099511627776 (sigG sd 1 m.toNat (tGrant ++ pubG sd2 0 ++ spanB (-1099511627776) 1099511627776)) [nextG ls bl] lo hi =
  (((sd2, 0, 1), (pubG sd2 0, -1099511627776, 1099511627776, sigG sd 1 m.toNat (tGrant ++ pubG sd2 0 ++ spanB (-1099511627776) 1099511627776))), [y], 0)) : HonK (ls ++ [(pk, bl, y)]) k lo hi := by
 subst hk
 have e1 : linkT (ls ++ [(pk, bl, y)]) ls.length = (pk, bl, y) := by
  unfold linkT
  rw [List.getD_eq_getElem?_getD, List.getElem?_append_right (Nat.le_refl _), Nat.sub_self]; rfl
 have e2 : (ls ++ [(pk, bl, y)]).take ls.length = ls := by rw [List.take_append_of_le_length (Nat.le_refl _), List.take_length]
 unfold HonK
 rw [e1, e2]
 exact ⟨sd, sd2, m, h1, h2, h3, h4, h5, h6, h7⟩
theorem link_eltsK {w : World} {n base : Nat} {v x y z : Value} {a b c : Bs} (h1 : SeesB w w.heap.size x a) (h2 : SeesB w w.heap.size y b) (h3 : SeesB w w.heap.size z c) (f1 : From n x) (f2 : From n y) (f3 : From n z) (hv : ∀ j, v.ownBlock = some j → j < n) (hn : base ≤ n) : ∀ (k : Nat) (s : Spec), (linkS [(a, b, c)])[k]? = some s → ∃ u, [x, y, z][k]? = some u ∧ EltS w v u s ∧ From base u := by
 intro k s hk
 match k, hk with
 | 0, hk => cases hk; exact ⟨_, rfl, EltS.of_from h1 f1 hv, f1.mono hn⟩
 | 1, hk => cases hk; exact ⟨_, rfl, EltS.of_from h2 f2 hv, f2.mono hn⟩
 | 2, hk => cases hk; exact ⟨_, rfl, EltS.of_from h3 f3 hv, f3.mono hn⟩
 | k + 3, hk => simp [linkS] at hk
theorem boxA {X w19 : World} {g : Nat} {T : TypeId} {xs : List Value} (h : Box X g T xs) (h8 : Below X.heap.size X w19) : Box w19 g T xs ∧ g < X.heap.size := ⟨h.below h8, h.lt⟩
theorem ans_new {w17 w19 : World} {n : Nat} {v : Value} {y : Bs} (q : OwnLF w19 n v [y]) (h : w17.heap.size ≤ n) (hb : Below w17.heap.size w17 w19) (o : Obj) : OwnLF (w19.alloc o) w17.heap.size v [y] ∧ Below w17.heap.size w17 (w19.alloc o) :=
 ⟨(q.below (balloc _ _)).mono h, bgo hb (balloc _ _)⟩
theorem ans_set {w17 w19 : World} {g n : Nat} {T : TypeId} {v : Value} {y : Bs} (hx : Box w19 g T [.slice none 0 0, .int .i64 0, .int .i64 0, .slice none 0 0, .int .i64 0, .int .i64 0, .slice none 0 0]) (hgX : g < n) (hg : w17.heap.size ≤ g) (hX : w17.heap.size ≤ n) (q : OwnLF w19 n v [y]) (hb : Below w17.heap.size w17 w19)
 (A1 : Option Addr) (n1 c1 : Nat) (i1 i2 : Int) (A2 : Option Addr) (n2 c2 : Nat) (i3 i4 : Int) (A3 : Option Addr) (n3 c3 : Nat) :
 OwnLF (((((((w19.setCell ⟨g, 0, none⟩ (.slice A1 n1 c1)).setCell ⟨g, 1, none⟩ (.int .i64 i1)).setCell ⟨g, 2, none⟩ (.int .i64 i2)).setCell ⟨g, 3, none⟩ (.slice A2 n2 c2)).setCell ⟨g, 4, none⟩ (.int .i64 i3)).setCell ⟨g, 5, none⟩ (.int .i64 i4)).setCell ⟨g, 6, none⟩ (.slice A3 n3 c3)) w17.heap.size v [y] ∧
  Below w17.heap.size w17 (((((((w19.setCell ⟨g, 0, none⟩ (.slice A1 n1 c1)).setCell ⟨g, 1, none⟩ (.int .i64 i1)).setCell ⟨g, 2, none⟩ (.int .i64 i2)).setCell ⟨g, 3, none⟩ (.slice A2 n2 c2)).setCell ⟨g, 4, none⟩ (.int .i64 i3)).setCell ⟨g, 5, none⟩ (.int .i64 i4)).setCell ⟨g, 6, none⟩ (.slice A3 n3 c3)) :=
 ⟨(OwnLF.set7 hx hgX (NoB.s _ _ _) (NoB.i _) (NoB.i _) (NoB.s _ _ _) (NoB.i _) (NoB.i _) (NoB.s _ _ _) _ _ _ _ _ _ _ (NoB.s _ _ _) (NoB.i _) (NoB.i _) (NoB.s _ _ _) (NoB.i _) (NoB.i _) q).mono hX,
   ((((((hb.setCell (p := ⟨g, 0, none⟩) hg _).setCell (p := ⟨g, 1, none⟩) hg _).setCell (p := ⟨g, 2, none⟩) hg _).setCell (p := ⟨g, 3, none⟩) hg _).setCell (p := ⟨g, 4, none⟩) hg _).setCell (p := ⟨g, 5, none⟩) hg _).setCell (p := ⟨g, 6, none⟩) hg _⟩
set_option linter.unusedSimpArgs false
attribute [local go_sem ↓] Go.wp_at_zero Go.wp_at_succ
def KSignSP (v ht : Int) (w : World) (e : Ending) (w' : World) : Prop :=
 ∃ v1 v2 sd pk, e = .returned (.tuple #[.agg #[v1, .int .i64 (ht % 2), .int .i64 0], v2]) ∧ SeesB w' w'.heap.size v1 sd ∧ sd = randK (wrap64 (v + 100)) 32 ∧ sd.length = 32 ∧ SeesB w' w'.heap.size v2 pk ∧ pk = pubG sd (ht % 2) ∧ pk.length = 32 ∧ From w.heap.size v2 ∧ Below w.heap.size w w'
set_option maxRecDepth 100000 in
set_option maxHeartbeats 1000000 in
theorem ksignerS_any (v ht : Int) (w : World) : Calls Tryz.prog 19 #[.int .i64 v, .int .i64 ht] w (KSignSP v ht w) := by
 have hkr := fun x W => (show Calls Tryz.prog 49 #[.int .i64 x, .int .i64 32] W (Shows (randK x 32) W) from krandom_any x 32 (by omega) W)
 have hwi := fun W => kwithin_any ht 2 (by omega) (by omega) W
 have b1 := balloc w (.cells #[.slice none 0 0, .int .i64 0, .int .i64 0] 43)
 have h4 := Box.new w 43 [.slice none 0 0, .int .i64 0, .int .i64 0]
 have hm0 := Int.emod_nonneg ht (show (2 : Int) ≠ 0 by omega)
 have hm1 := Int.emod_lt_of_pos ht (show (0 : Int) < 2 by omega)
 replace hkr := Lib.hid hkr
 replace hwi := Lib.hid hwi
 replace b1 := Lib.hid b1
 have hm0' := Lib.hid hm0
 have hm1' := Lib.hid hm1
 clear hm0 hm1
 go_enter Tryz.func19, Tryz.ntmps19
 go_wp2_with fail
 change Box (w.alloc (.cells #[.slice none 0 0, .int .i64 0, .int .i64 0] 43)) _ _ _ at h4
 generalize w.alloc (.cells #[.slice none 0 0, .int .i64 0, .int .i64 0] 43) = W1 at *
 generalize hg : w.heap.size = g4 at h4 ⊢
 replace hg := Lib.hid hg
 refine (hkr.out _ _).mono ?_
 rintro e w2 ⟨v2, rfl, t2, hb2, -⟩
 have hl := randK_len (wrap64 (v + 100)) 32 (by omega)
 obtain ⟨A2, c2, rfl, -, -⟩ := t2.mk_
 replace h4 := Lib.hid (h4.below hb2)
 replace b1 := Lib.hid (bgo b1.out hb2)
 replace hl := Lib.hid hl
 generalize hSD : randK (wrap64 (v + 100)) 32 = sd at *
 replace hSD := Lib.hid hSD
 dsimp only
 go_wp2_with fail
 refine (hwi.out _).mono ?_
 rintro e w3 ⟨rfl, rfl⟩
 generalize hH : ht % 2 = H at *
 replace hH := Lib.hid hH
 dsimp only
 have hal := balloc w3 (.cells #[.slice A2 sd.length c2, .int .i64 H, .int .i64 0] 43)
 have h6 := Box.new w3 43 [.slice A2 sd.length c2, .int .i64 H, .int .i64 0]
 change Box (w3.alloc (.cells #[.slice A2 sd.length c2, .int .i64 H, .int .i64 0] 43)) _ _ _ at h6
 go_upto_region 2 with (fail)
 have t6 := seesB_of t2 (Nat.le_refl _) hal
 replace h4 := Lib.hid (h4.out.below hal)
 replace b1 := Lib.hid (bgo b1.out hal)
 generalize w3.alloc (.cells #[.slice A2 sd.length c2, .int .i64 H, .int .i64 0] 43) = W6 at *
 generalize w3.heap.size = g6 at *
 have c0 := h6.cell 0
 have c1 := h6.cell 1
 simp only [List.getElem?_cons_zero, List.getElem?_cons_succ] at c0 c1
 have hpu := Lib.hid (rpublicF_any W6.heap.size _ sd H W6 t6 (Nat.le_refl _) hl.out ⟨hm0'.out, by have := hm1'.out; omega⟩)
 clear t2 hal hkr hwi
 go_wp2_with fail
 refine hpu.out.mono ?_
 rintro e w7 ⟨vp, rfl, tp, fp, hb7⟩
 obtain ⟨Ap, cp, rfl, -, -⟩ := tp.mk_
 have fw := Lib.hid (fp.mono b1.out.size)
 clear fp
 have h67 := h6.below hb7
 have h47 := h4.out.below hb7
 have t7 := seesB_of t6 (Nat.le_refl _) hb7
 have b7 := Lib.hid (bgo b1.out hb7)
 have hlp : Hid ((pubG sd H).length = 32) := by
  show _ = _
  have hl' : sd.length = 32 := hl.out
  rw [pubG, if_pos (by have := hm0'.out; have := hm1'.out; omega)]
  exact keyG_len _ _
 have hl' : Hid (sd.length = 32) := hl.out
 have hpg : Hid (pubG sd H = pubG sd H) := rfl
 generalize hpk : pubG sd H = pk at tp hlp fw ⊢
 replace hpk := Lib.hid hpk
 have d0 := h67.cell 0
 have d1 := h67.cell 1
 have d2 := h67.cell 2
 have y0 := h47.cell 0
 have y1 := h47.cell 1
 have y2 := h47.cell 2
 simp only [List.getElem?_cons_zero, List.getElem?_cons_succ] at d0 d1 d2 y0 y1 y2
 have f0 := h47.frozen 0
 have f1 := h47.frozen 1
 have f2 := h47.frozen 2
 have n47 := noBL3' (NoB.s none 0 0) (NoB.i 0) (NoB.i 0)
 have hgr := ggo (ggo (setCell_grown w7 g4 0 (.slice A2 sd.length c2)) (setCell_grown _ g4 1 (.int .i64 H))) (setCell_grown _ g4 2 (.int .i64 0))
 have hz : (((w7.setCell ⟨g4, 0, none⟩ (.slice A2 sd.length c2)).setCell ⟨g4, 1, none⟩ (.int .i64 H)).setCell ⟨g4, 2, none⟩ (.int .i64 0)).heap.size = w7.heap.size := by simp [World.setCell]
 have kt := t7.over (Nat.le_refl _) h47 n47 hgr
 have kp := tp.over (Nat.le_refl _) h47 n47 hgr
 have k4 := ((h47.set 0 (.slice A2 sd.length c2)).set 1 (.int .i64 H)).set 2 (.int .i64 0)
 simp only [List.set_cons_zero, List.set_cons_succ] at k4
 rw [← hz] at kt kp
 replace kt := Lib.hid kt
 replace kp := Lib.hid kp
 replace k4 := Lib.hid k4
 have kb := Lib.hid (below_set3 b7.out (Nat.le_of_eq hg.out) (.slice A2 sd.length c2) (.int .i64 H) (.int .i64 0))
 clear hl hgr hz h47 h67 h6 h4 tp t7 t6 c0 c1 b1 hpu
 dsimp only
 go_wp2_with fail
 clear d0 d1 d2 y0 y1 y2 f0 f1 f2
 generalize ((w7.setCell ⟨g4, 0, none⟩ (.slice A2 sd.length c2)).setCell ⟨g4, 1, none⟩ (.int .i64 H)).setCell ⟨g4, 2, none⟩ (.int .i64 0) = W9 at *
 have z0 : W9.cell? ⟨g4, 0, none⟩ = some (.slice A2 sd.length c2) := k4.out.cell 0
 have z1 : W9.cell? ⟨g4, 1, none⟩ = some (.int .i64 H) := k4.out.cell 1
 have z2 : W9.cell? ⟨g4, 2, none⟩ = some (.int .i64 0) := k4.out.cell 2
 refine bodyPost_ret (v := .tuple #[.agg #[.slice A2 sd.length c2, .int .i64 H, .int .i64 0], .slice Ap pk.length cp]) (by simp [results, Tryz.results19, go_sem, z0, z1, z2]) rfl ?_
 exact ⟨_, _, sd, pk, by rw [hH.out], kt.out, hSD.out.symm, hl'.out, kp.out, by rw [hH.out]; exact hpk.out.symm, hlp.out, fw.out, kb.out⟩
end Go.Proofs.YtgehkgjllhkhoaaGreat

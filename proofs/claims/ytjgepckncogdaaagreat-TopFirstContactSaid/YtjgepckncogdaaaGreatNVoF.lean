/- What a law leans on beyond the base: contracts, plain functions, walks. Conditions: those of each theorem. -/
import Derived.Test.YtjgepckncogdaaaGreatNUE
import Derived.Test.YtjgepckncogdaaaGreatNKChain2
set_option linter.unusedVariables false
set_option linter.unusedSimpArgs false
namespace Go.Proofs.YtjgepckncogdaaaGreat
open Go Go.RowKit
set_option linter.unusedVariables false
set_option linter.unusedSimpArgs false
attribute [local go_sem ↓] Go.wp_at_zero Go.wp_at_succ
theorem step_appC {ops : Array Oper} {o : Oper} {a : Act} {w : World} {K : Act → World → Prop} {Q : Exit → Act → World → Prop} {X : Prop} (hgd : o.guard = none) (s x : Operand) (T E : TypeId) (hT : Tryz.prog.underlying T = some (.slice E))
 (ho : o.op = .call { callee := .builtin .append, args := #[s, x], argTypes := #[T, T] }) (i : TypeInfo) (z : Value) (size bytes : Nat) (hi : Tryz.prog.info? E = some i) (hz : i.zero = some z)
 (hsz : i.size = size) (hby : i.bytes = bytes) (hzs : z.cells.size = size) (h0 : 0 < size)
 (base : Nat) (v : Value) (n : Nat) (xs : List Value) (hs : a.eval s = v) (hown : w.ownsRow base E size v n xs) (B : Nat) (u : Value) (m : Nat) (vs : List Value) (hx : a.eval x = u) (hr : Sees w B u size m vs) (h1 : ∀ y ∈ vs, y.oneCell' = true)
 (h63 : n + m ≤ maxLen) (hbytes : (n + m) * bytes ≤ 140737488355328) (hbase : base ≤ w.heap.size)
 (h : ∀ v' w', w'.ownsRow base E size v' (n + m) (xs ++ vs) → w.grownBy w' v.ownBlock → (v'.ownBlock = v.ownBlock ∨ v'.ownBlock = some w.heap.size) → K (a.put o.dst v') w') : if Region.wanted o (yielded ops a.tmps) = true then Oper.wp Tryz.prog o a w K Q else X := by
 have hw : Region.wanted o (yielded ops a.tmps) = true := by simp [Region.wanted, hgd]
 rw [if_pos hw]
 exact wp_append_sees s x T ho base E i z size bytes hT hi hz hsz hby hzs h0 v n xs hs hown B u m vs hx hr h1 h63 hbytes hbase h
theorem own_ty {w : World} {base size n g : Nat} {T E : TypeId} {v : Value} {xs cs : List Value} (h : w.ownsRow base E size v n xs) (hb : Box w g T cs) (hne : E ≠ T) : v.ownBlock ≠ some g := by
 intro e
 rcases h.2 with ⟨rfl, -⟩ | ⟨g', cap, cur, rfl, -, hg, -⟩
 · cases e
 · simp only [Value.ownBlock, Option.some.injEq] at e
   subst e
   have h1 : w.heap[g']? = some (.cells cs.toArray T) := hb
   rw [h1] at hg
   simp at hg
   first | exact hne hg.1.symm | exact hne hg.2.symm
theorem box_ty {w w' : World} {base size n g : Nat} {T E : TypeId} {v : Value} {xs cs : List Value} (hb : Box w g T cs) (h : w.ownsRow base E size v n xs) (hne : E ≠ T) (hg : w.grownBy w' v.ownBlock) : Box w' g T cs :=
 (hg.block g hb.lt (fun e => own_ty h hb hne e.symm)).trans hb
structure TwoF (base : Nat) (w0 : World) (h : Value) (is : List Int) (s : Value) (ss : List Sp) (W : World) : Prop where
 hr : W.ownsRow base 3 1 h is.length (is.map fun x => Value.int .i64 x)
 sr : W.ownsRow base 24 2 s ss.length (spV ss)
 old : Below base w0 W
 size : base ≤ W.heap.size
section
variable {base : Nat} {w0 W W' : World} {h h' s s' : Value} {is : List Int} {ss : List Sp}
theorem row_ne {E E' : TypeId} {size size' n n' : Nat} {xs ys : List Value} (h1 : W.ownsRow base E size h n xs) (h2 : W.ownsRow base E' size' s n' ys) (hne : E ≠ E') : ∀ j, h.ownBlock = some j → s.ownBlock ≠ some j := by
 intro j e1 e2
 rcases h1.2 with ⟨rfl, -⟩ | ⟨g, cap, cur, rfl, -, hg, -⟩
 · cases e1
 · rcases h2.2 with ⟨rfl, -⟩ | ⟨g', cap', cur', rfl, -, hg', -⟩
   · cases e2
   · simp only [Value.ownBlock, Option.some.injEq] at e1 e2
     subst e1 e2
     rw [hg] at hg'
     simp at hg'
     exact hne hg'.2
theorem ne_own {a b : Value} (h : ∀ j, b.ownBlock = some j → a.ownBlock ≠ some j) : a.ownBlock = none ∨ a.ownBlock ≠ b.ownBlock := by
 cases e : a.ownBlock with
 | none => exact .inl rfl
 | some x => exact .inr (fun e2 => h x e2.symm e)
theorem TwoF.below (H : TwoF base w0 h is s ss W) (hb : Below W.heap.size W W') : TwoF base w0 h is s ss W' :=
 ⟨own_below H.hr hb, own_below H.sr hb, H.old.trans (hb.mono H.size), Nat.le_trans H.size hb.size⟩
theorem TwoF.app1 (H : TwoF base w0 h is s ss W) {x : Int} (o : W'.ownsRow base 3 1 h' (is.length + 1) ((is.map fun x => Value.int .i64 x) ++ [.int .i64 x])) (hg : W.grownBy W' h.ownBlock) : TwoF base w0 h' (is ++ x :: []) s ss W' :=
 ⟨by rw [List.length_append, List.map_append]; exact o, H.sr.kept hg (ne_own (row_ne H.hr H.sr (by decide))), bgrowO H.old hg (fun j hj => (H.hr.lt j hj).1) H.size, Nat.le_trans H.size hg.size⟩
theorem TwoF.app2 (H : TwoF base w0 h is s ss W) {x y : Int} (o : W'.ownsRow base 24 2 s' (ss.length + 1) (spV ss ++ [.int .i64 x, .int .i64 y])) (hg : W.grownBy W' s.ownBlock) : TwoF base w0 h is s' (ss ++ (x, y) :: []) W' :=
 ⟨H.hr.kept hg (ne_own fun j e1 e2 => row_ne H.hr H.sr (by decide) j e2 e1), by rw [List.length_append, ← spV_snocV]; exact o, bgrowO H.old hg (fun j hj => (H.sr.lt j hj).1) H.size, Nat.le_trans H.size hg.size⟩
end
theorem Sees.lit1F {W : World} {G : Nat} {x : Int} (h : Box W G 3 [.int .i64 x]) : Sees W W.heap.size (.slice (some ⟨G, 0, none⟩) 1 1) 1 1 [.int .i64 x] :=
 ⟨rfl, _, 1, rfl, Nat.le_refl _, by simp [maxLen], fun _ => ⟨G, 0, rfl, h.lt, fun j u hj => by have := h.cell j; rw [Nat.zero_add, this, hj]⟩⟩
theorem Sees.lit2F {W : World} {G : Nat} {x y : Int} (h : Box W G 24 [.int .i64 x, .int .i64 y]) : Sees W W.heap.size (.slice (some ⟨G, 0, none⟩) 1 1) 2 1 [.int .i64 x, .int .i64 y] :=
 ⟨rfl, _, 1, rfl, Nat.le_refl _, by simp [maxLen], fun _ => ⟨G, 0, rfl, h.lt, fun j u hj => by have := h.cell j; rw [Nat.zero_add, this, hj]⟩⟩
theorem heard_next {r : Bs} {ts : List VoiT} {k : Nat} (h : vacc r (voiT ts k) = 0) : heardN r ts (k + 1) = heardN r ts k ++ (k : Int) :: [] ∧ spansN r ts (k + 1) = spansN r ts k ++ (voiT ts k).2.2 :: [] := by
 unfold heardN spansN
 rw [if_pos h, if_pos h]
 cases k <;> exact ⟨rfl, rfl⟩
theorem heard_skip {r : Bs} {ts : List VoiT} {k : Nat} (h : vacc r (voiT ts k) ≠ 0) : heardN r ts (k + 1) = heardN r ts k ∧ spansN r ts (k + 1) = spansN r ts k := by
 rw [heardN, spansN, if_neg h, if_neg h]; exact ⟨rfl, rfl⟩
theorem first_lim {r : Bs} {ts : List VoiT} {f : Int} (h : 64 < ts.length) {w w' : World} (hb : Below w.heap.size w w') : FirstVP r ts f w (.returned (.tuple #[.agg #[.int .i64 0, .int .i64 0], .slice none 0 0, .int .i64 8])) w' :=
 ⟨_, 8, 0, 0, [], rfl, Sees.nil _ _ _, by unfold FirstR; rw [if_pos h]; exact ⟨rfl, rfl, rfl, rfl⟩, hb⟩
theorem first_rng {r : Bs} {ts : List VoiT} {f : Int} (h : ¬ 64 < ts.length) (h2 : ¬ (0 ≤ f ∧ 2 * f < (ts.length : Int))) {w w' : World} (hb : Below w.heap.size w w') : FirstVP r ts f w (.returned (.tuple #[.agg #[.int .i64 0, .int .i64 0], .slice none 0 0, .int .i64 4])) w' :=
 ⟨_, 4, 0, 0, [], rfl, Sees.nil _ _ _, by unfold FirstR; rw [if_neg h, if_neg h2]; exact ⟨rfl, rfl, rfl, rfl⟩, hb⟩
theorem first_none {r : Bs} {ts : List VoiT} {f : Int} (h : ¬ 64 < ts.length) (h2 : 0 ≤ f ∧ 2 * f < (ts.length : Int)) (h3 : IsHull (spansN r ts ts.length) (ts.length - f) none) {w w' : World} (hb : Below w.heap.size w w') : FirstVP r ts f w (.returned (.tuple #[.agg #[.int .i64 0, .int .i64 0], .slice none 0 0, .int .i64 21])) w' :=
 ⟨_, 21, 0, 0, [], rfl, Sees.nil _ _ _, by unfold FirstR; rw [if_neg h, if_pos h2]; exact ⟨none, h3, rfl, rfl, rfl, rfl⟩, hb⟩
theorem first_some {r : Bs} {ts : List VoiT} {f lo hi : Int} {v : Value} (h : ¬ 64 < ts.length) (h2 : 0 ≤ f ∧ 2 * f < (ts.length : Int)) (h3 : IsHull (spansN r ts ts.length) (ts.length - f) (some (lo, hi))) {w w' : World} (hv : SeesT w' w'.heap.size v (heardN r ts ts.length)) (hb : Below w.heap.size w w') : FirstVP r ts f w (.returned (.tuple #[.agg #[.int .i64 lo, .int .i64 hi], v, .int .i64 0])) w' :=
 ⟨_, 0, lo, hi, _, rfl, hv, by unfold FirstR; rw [if_neg h, if_pos h2]; exact ⟨some (lo, hi), h3, rfl, rfl, rfl, rfl⟩, hb⟩
set_option maxRecDepth 100000 in
set_option maxHeartbeats 8000000 in
theorem cvfirst_any (B : Nat) (u u2 : Value) (r : Bs) (ts : List VoiT) (f : Int) (w : World) (hu : SeesB w B u r) (hu2 : SeesV w B u2 ts) (hB : B ≤ w.heap.size) (hl : ∀ t ∈ ts, t.2.1.length ≤ 1048576 ∧ ∀ c ∈ t.2.1, c.2.1.length ≤ 1048576 ∧ c.2.2.2.2.length ≤ 1048576) :
 Calls Tryz.prog 45 #[u, u2, .int .i64 f] w (FirstVP r ts f w) := by
 obtain ⟨Ar, cr, rfl, -, -⟩ := hu.mk_
 obtain ⟨A, c, rfl, hc1, hc2⟩ := hu2.1.mk_
 have x6 := Box.new w 24 [.int .i64 0, .int .i64 0]
 change Box (w.alloc (.cells #[.int .i64 0, .int .i64 0] 24)) _ _ _ at x6
 have hal := balloc w (.cells #[.int .i64 0, .int .i64 0] 24)
 have hu' := seesB_of hu hB hal
 have hu2' := (hu2.below (hal.mono hB)).more (Nat.le_trans hB hal.size)
 have hb0 := Lib.hid hal
 clear hu hu2 hB hal
 go_enter Tryz.func45, Tryz.ntmps45
 go_upto_region 1 with (fail)
 generalize w.alloc (.cells #[.int .i64 0, .int .i64 0] 24) = W0 at *
 obtain ⟨g6, hg6⟩ : ∃ x, x = w.heap.size := ⟨_, rfl⟩
 rw [← hg6] at x6 ⊢
 replace hg6 := Lib.hid hg6
 generalize hN : ts.length = n at *
 by_cases hn : 64 < n
 · have i0 : (64 : Int) < (n : Int) := by omega
   obtain ⟨k0, k1, k2, k3⟩ := box2_cells x6
   have x7 := box_set2 x6 (.int .i64 0) (.int .i64 0)
   have hb9 := Lib.hid (below_set2 (g := g6) hb0.out (Nat.le_of_eq hg6.out.symm) (.int .i64 0) (.int .i64 0))
   clear hu' hu2' hl hc1 hc2
   go_wp2_with fail
   clear k0 k1 k2 k3
   obtain ⟨k0, k1⟩ := boxT2 x7
   refine bodyPost_ret (v := .tuple #[.agg #[.int .i64 0, .int .i64 0], .slice none 0 0, .int .i64 8]) (by simp [results, Tryz.results45, go_sem, k0, k1]) rfl ?_
   exact first_lim (by omega) hb9.out
 have hn' : n ≤ 64 := by omega
 have i0 : ¬ (64 : Int) < (n : Int) := by omega
 have iw : -1 ≤ f → f ≤ 64 → IntKind.i64.wrap (2 * f) = 2 * f := fun h1 h2 => by rw [IntKind.wrap_i64]; omega
 by_cases hf : 0 ≤ f ∧ 2 * f < (n : Int)
 case neg =>
  obtain ⟨k0, k1, k2, k3⟩ := box2_cells x6
  have x7 := box_set2 x6 (.int .i64 0) (.int .i64 0)
  have hb9 := Lib.hid (below_set2 (g := g6) hb0.out (Nat.le_of_eq hg6.out.symm) (.int .i64 0) (.int .i64 0))
  have hfin : Hid (¬ (0 ≤ f ∧ 2 * f < (ts.length : Int))) := by rw [hN]; exact hf
  clear hu' hu2' hl hc1 hc2 x6
  by_cases h1 : f < 0
  · clear iw hf
    go_wp2_with fail
    clear k0 k1 k2 k3
    obtain ⟨k0, k1⟩ := boxT2 x7
    refine bodyPost_ret (v := .tuple #[.agg #[.int .i64 0, .int .i64 0], .slice none 0 0, .int .i64 4]) (by simp [results, Tryz.results45, go_sem, k0, k1]) rfl ?_
    exact first_rng (by omega) hfin.out hb9.out
  by_cases h2 : (n : Int) < f
  · clear iw hf
    go_wp2_with fail
    clear k0 k1 k2 k3
    obtain ⟨k0, k1⟩ := boxT2 x7
    refine bodyPost_ret (v := .tuple #[.agg #[.int .i64 0, .int .i64 0], .slice none 0 0, .int .i64 4]) (by simp [results, Tryz.results45, go_sem, k0, k1]) rfl ?_
    exact first_rng (by omega) hfin.out hb9.out
  · have iw' := iw (by omega) (by omega)
    have h3 : (n : Int) ≤ 2 * f := by omega
    clear iw hf
    go_wp2_with fail
    clear k0 k1 k2 k3
    obtain ⟨k0, k1⟩ := boxT2 x7
    refine bodyPost_ret (v := .tuple #[.agg #[.int .i64 0, .int .i64 0], .slice none 0 0, .int .i64 4]) (by simp [results, Tryz.results45, go_sem, k0, k1]) rfl ?_
    exact first_rng (by omega) hfin.out hb9.out
 obtain ⟨hf1, hf2⟩ := hf
 have i1 : ¬ f < 0 := by omega
 have i2 : ¬ (n : Int) < f := by omega
 have i3 : ¬ (n : Int) ≤ 2 * f := by omega
 have iw' := iw (by omega) (by omega)
 obtain ⟨ti, hti, htz, hts, htb⟩ := info_parts span_info
 obtain ⟨ti2, hti2, htz2, hts2, htb2⟩ := info_parts int_info
 replace hti := Lib.hid hti
 replace htz := Lib.hid htz
 replace hts := Lib.hid hts
 replace htb := Lib.hid htb
 replace hti2 := Lib.hid hti2
 replace htz2 := Lib.hid htz2
 replace hts2 := Lib.hid hts2
 replace htb2 := Lib.hid htb2
 have hacc := Lib.hid (fun W (hW : Below W0.heap.size W0 W) u2 cs lo hi (h2 : SeesR W W.heap.size u2 5 cs.length (certS cs)) h3 h4 => cacc_any W.heap.size (.slice Ar r.length cr) u2 r cs lo hi W (seesB_of hu' (Nat.le_refl _) hW) h2 (Nat.le_refl _) h3 h4)
 have x6' := Lib.hid x6
 have hV := Lib.hid hu2'
 replace hl := Lib.hid hl
 replace hN := Lib.hid hN
 have TT0 : TwoF W0.heap.size W0 (.slice none 0 0) [] (.slice none 0 0) [] W0 := ⟨World.ownsRow_nil _ _ _ _, World.ownsRow_nil _ _ _ _, Below.refl _ _, Nat.le_refl _⟩
 replace TT0 := Lib.hid TT0
 clear hu' hu2' x6 iw hn
 go_wp2_with fail
 go_loopw [9, 10, 41] (fun h s i wr => ∃ k hk2 : Nat, k ≤ n ∧ i = .int .i64 k ∧ hk2 ≤ k ∧ (heardN r ts k).length = hk2 ∧ (spansN r ts k).length = hk2 ∧ Hid (hk2 = 0 → s = .slice none 0 0) ∧ Hid (TwoF W0.heap.size W0 h (heardN r ts k) s (spansN r ts k) wr)) (fun _ _ i _ => n - (intOf i).toNat)
 case atStart => exact ⟨0, 0, by omega, rfl, by omega, rfl, rfl, fun _ => rfl, TT0⟩
 case round =>
  obtain ⟨k, hk2, hk, rfl, hlk, hl1, hl2, hni, TT⟩ := hrel
  obtain ⟨Ah, ch, rfl, -, -⟩ := (Sees.of_own TT.out.hr).mk_
  obtain ⟨As, cs, rfl, -, -⟩ := (Sees.of_own TT.out.sr).mk_
  by_cases hlt : k < n
  · have hkt : k < ts.length := by rw [hN.out]; exact hlt
    have hVk := hV.out.below TT.out.old
    obtain ⟨b, o, A1, c1, rfl, hb, -, z0, z1, z2, hR⟩ := voi_at hVk k hkt
    have hlb := hl.out _ (voiT_mem ts k hkt)
    have hnx := Lib.hid (@heard_next r ts k)
    have hsk := Lib.hid (@heard_skip r ts k)
    have hvd : vacc r (voiT ts k) = accC r (voiT ts k).2.1 (voiT ts k).2.2.1 (voiT ts k).2.2.2 := rfl
    replace hlk := Lib.hid hlk
    replace hl1 := Lib.hid hl1
    replace hl2 := Lib.hid hl2
    rw [hl1.out, hl2.out]
    rw [hl1.out, hl2.out] at TT
    generalize voiT ts k = V at *
    obtain ⟨uV, CS, lo, hi⟩ := V
    dsimp only at z0 z1 z2 hR hlb hnx hsk hvd
    have j0 : (k : Int) < (n : Int) := by omega
    have j1 : (0 : Int) ≤ (k : Int) := by omega
    have hal := balloc wr (.cells #[.slice A1 CS.length c1, .int .i64 lo, .int .i64 hi] 85)
    have x12 := Box.new wr 85 [.slice A1 CS.length c1, .int .i64 lo, .int .i64 hi]
    change Box (wr.alloc (.cells #[.slice A1 CS.length c1, .int .i64 lo, .int .i64 hi] 85)) _ _ _ at x12
    replace hR := (hR.below (TT.out.old |> fun _ => hal.mono TT.out.size)).more (Nat.le_trans TT.out.size hal.size)
    replace TT := Lib.hid (TT.out.below hal)
    have hac := hacc.out _ TT.out.old _ CS lo hi hR hlb.2 hlb.1
    unfold AccP at hac
    rw [← hvd] at hac
    go_upto_region 10 with (fail)
    generalize wr.alloc (.cells #[.slice A1 CS.length c1, .int .i64 lo, .int .i64 hi] 85) = W1 at *
    generalize wr.heap.size = g12 at *
    obtain ⟨k0, k1, k2, -, -, -⟩ := box3_cells x12
    replace x12 := Lib.hid x12
    replace hac := Lib.hid hac
    clear hR hVk hlb hal z0 z1 z2 hb hvd
    go_wp2_with fail
    refine hac.out.mono ?_
    rintro e wX ⟨v13, rfl, p13, hb13⟩
    obtain ⟨A13, c13, rfl, -, -⟩ := p13.mk_
    replace x12 := x12.out.below hb13
    replace TT := TT.out.below hb13
    clear k0 k1 k2 hac p13 hb13
    dsimp only
    by_cases hv0 : vacc r (uV, CS, lo, hi) = 0
    · rw [hv0]
      replace hnx := Lib.hid (hnx.out hv0)
      clear hv0 hsk
      go_upto_region 12 with (fail)
      refine wp_region_J (fun W' : World => W'.cell? ⟨g12, 1, none⟩ = some (.int .i64 lo) ∧ W'.cell? ⟨g12, 2, none⟩ = some (.int .i64 hi)) 10 (by kernel_rfl) ?_ (fun hHeld => ?_)
      · (try dsimp only); exact ⟨x12.cell 1, x12.cell 2⟩
      have x12 := x12.below (bdrew _)
      have TT := TT.below (bdrew _)
      generalize wX.drew = X at *
      refine wpAnyJ_take0 (i := 0) (v := ?_) rfl (by kernel_rfl) (by kernel_rfl) (by kernel_rfl) (fun _ _ _ h => h) (by rfl) (Or.inl ⟨by rfl, ?_⟩) (by assumption) ?_
      rotate_left 1
      · intro w hSw; (try dsimp only at hSw); go_simp <;> (try with_reducible rfl)
      try simp only [Act.put, List.getElem_toArray, List.getElem_cons_succ, List.getElem_cons_zero, List.setIfInBounds_toArray, List.set_cons_zero, List.set_cons_succ]
      refine wpAnyJ_take0 (i := 1) (v := ?_) rfl (by kernel_rfl) (by kernel_rfl) (by kernel_rfl) (fun _ _ _ h => h) (by rfl) (Or.inl ⟨by rfl, ?_⟩) (by assumption) ?_
      rotate_left 1
      · intro w hSw; (try dsimp only at hSw); go_simp <;> (try with_reducible rfl)
      try simp only [Act.put, List.getElem_toArray, List.getElem_cons_succ, List.getElem_cons_zero, List.setIfInBounds_toArray, List.set_cons_zero, List.set_cons_succ]
      refine wpAnyJ_take0 (i := 4) (v := ?_) rfl (by kernel_rfl) (by kernel_rfl) (by kernel_rfl) (fun _ _ _ h => h) (by rfl) (Or.inl ⟨by rfl, ?_⟩) (by assumption) ?_
      rotate_left 1
      · intro w hSw; (try dsimp only at hSw); go_simp <;> (try with_reducible rfl)
      try simp only [Act.put, List.getElem_toArray, List.getElem_cons_succ, List.getElem_cons_zero, List.setIfInBounds_toArray, List.set_cons_zero, List.set_cons_succ]
      refine wpAnyJ_take0 (i := 5) (v := ?_) rfl (by kernel_rfl) (by kernel_rfl) (by kernel_rfl) (fun _ _ _ h => h) (by rfl) (Or.inl ⟨by rfl, ?_⟩) (by assumption) ?_
      rotate_left 1
      · intro w hSw; (try dsimp only at hSw); go_simp <;> (try with_reducible rfl)
      try simp only [Act.put, List.getElem_toArray, List.getElem_cons_succ, List.getElem_cons_zero, List.setIfInBounds_toArray, List.set_cons_zero, List.set_cons_succ]
      refine wpAnyJ_take (i := 6) (v := ?_) rfl (by kernel_rfl) (by kernel_rfl) (by kernel_rfl) (fun _ _ _ h => h) (by rfl) rfl (by kernel_rfl) (by kernel_rfl) (Or.inl ⟨by rfl, ?_⟩) (by assumption) ?_
      rotate_left 1
      · intro w hSw; (try dsimp only at hSw); go_simp <;> (try with_reducible rfl)
      try simp only [Act.put, List.getElem_toArray, List.getElem_cons_succ, List.getElem_cons_zero, List.setIfInBounds_toArray, List.set_cons_zero, List.set_cons_succ]
      refine wpAnyJ_ready (rs := [2, 7]) (by kernel_rfl) (by simp) ?_
      refine AllReadyJ.cons (o := _) rfl (fun Kq hKq => ?_) ?_
      · go_simp
        have hal := balloc X (.cells #[.int .i64 (k : Int)] 3)
        have L1 := Box.new X 3 [.int .i64 (k : Int)]
        change Box (X.alloc (.cells #[.int .i64 (k : Int)] 3)) _ _ _ at L1
        replace x12 := x12.below hal
        replace TT := TT.below hal
        clear hal
        generalize X.heap.size = g1 at L1 ⊢
        generalize X.alloc (.cells #[.int .i64 (k : Int)] 3) = X at *
        refine hKq.out _ _ ?_ (fun hHeld => ?_)
        · intro _; (try dsimp only); exact ⟨x12.cell 1, x12.cell 2⟩
        clear hKq Kq
        try simp only [Act.put, List.getElem_toArray, List.getElem_cons_succ, List.getElem_cons_zero, List.setIfInBounds_toArray, List.set_cons_zero, List.set_cons_succ]
        refine wpAnyJ_ready (rs := [3, 7]) (by kernel_rfl) (by simp) ?_
        refine AllReadyJ.cons (o := _) rfl (fun Kq hKq => ?_) ?_
        · skip
          refine step_appC (by rfl) (.tmp 57) (.tmp 59) 55 3 Tryz.underlying55 (by rfl) ti2 _ 1 8 hti2.out htz2.out hts2.out htb2.out (by rfl) (by omega) W0.heap.size (.slice Ah hk2 ch) hk2 _ (by rfl) (by have := TT.hr; rwa [hl1.out] at this) _ _ 1 _ (by rfl) (Sees.lit1F L1) (by simp [Value.oneCell']) (by have := hlk.out; unfold maxLen; omega) (by have := hlk.out; omega) TT.size ?_
          intro v' X' o1 gr1 d1
          obtain ⟨Aw, cw, rfl, -, -⟩ := (Sees.of_own o1).mk_
          have x12' := box_ty x12 TT.hr (by decide) gr1
          have TT' := TT.app1 (by rw [hl1.out]; exact o1) gr1
          clear TT x12 L1 o1 gr1 d1
          obtain ⟨X, rfl⟩ : ∃ X : World, X = X' := ⟨_, rfl⟩
          have x12 := x12'
          have TT := TT'
          clear x12' TT'
          refine hKq.out _ _ ?_ (fun hHeld => ?_)
          · intro _; (try dsimp only); exact ⟨x12.cell 1, x12.cell 2⟩
          clear hKq Kq
          try simp only [Act.put, List.getElem_toArray, List.getElem_cons_succ, List.getElem_cons_zero, List.setIfInBounds_toArray, List.set_cons_zero, List.set_cons_succ]
          refine wpAnyJ_ready (rs := [7]) (by kernel_rfl) (by simp) ?_
          refine AllReadyJ.cons (o := _) rfl (fun Kq hKq => ?_) ?_
          · go_simp
            have hal := balloc X (.cells #[.int .i64 lo, .int .i64 hi] 24)
            have L2 := Box.new X 24 [.int .i64 lo, .int .i64 hi]
            change Box (X.alloc (.cells #[.int .i64 lo, .int .i64 hi] 24)) _ _ _ at L2
            replace x12 := x12.below hal
            replace TT := TT.below hal
            clear hal
            generalize X.heap.size = g2 at L2 ⊢
            generalize X.alloc (.cells #[.int .i64 lo, .int .i64 hi] 24) = X at *
            refine hKq.out _ _ ?_ (fun hHeld => ?_)
            · intro _; (try dsimp only); exact ⟨x12.cell 1, x12.cell 2⟩
            clear hKq Kq
            try simp only [Act.put, List.getElem_toArray, List.getElem_cons_succ, List.getElem_cons_zero, List.setIfInBounds_toArray, List.set_cons_zero, List.set_cons_succ]
            refine wpAnyJ_ready (rs := [8]) (by kernel_rfl) (by simp) ?_
            refine AllReadyJ.cons (o := _) rfl (fun Kq hKq => ?_) ?_
            · skip
              refine step_appC (by rfl) (.tmp 61) (.tmp 64) 67 24 Tryz.underlying67 (by rfl) ti _ 2 16 hti.out htz.out hts.out htb.out (by rfl) (by omega) W0.heap.size (.slice As hk2 cs) hk2 _ (by rfl) (by have := TT.sr; rwa [hl2.out] at this) _ _ 1 _ (by rfl) (Sees.lit2F L2) (by simp [Value.oneCell']) (by have := hlk.out; unfold maxLen; omega) (by have := hlk.out; omega) TT.size ?_
              intro v' X' o1 gr1 d1
              obtain ⟨Av, cv, rfl, -, -⟩ := (Sees.of_own o1).mk_
              have x12' := box_ty x12 TT.sr (by decide) gr1
              have TT' := TT.app2 (by rw [hl2.out]; exact o1) gr1
              clear TT x12 L2 o1 gr1 d1
              obtain ⟨X, rfl⟩ : ∃ X : World, X = X' := ⟨_, rfl⟩
              have x12 := x12'
              have TT := TT'
              clear x12' TT'
              refine hKq.out _ _ ?_ (fun hHeld => ?_)
              · intro _; (try dsimp only); exact ⟨x12.cell 1, x12.cell 2⟩
              clear hKq Kq
              try simp only [Act.put, List.getElem_toArray, List.getElem_cons_succ, List.getElem_cons_zero, List.setIfInBounds_toArray, List.set_cons_zero, List.set_cons_succ]
              refine wpAnyJ_take0 (i := 9) (v := ?_) rfl (by kernel_rfl) (by kernel_rfl) (by kernel_rfl) (fun _ _ _ h => h) (by rfl) (Or.inl ⟨by rfl, ?_⟩) (by assumption) ?_
              rotate_left 1
              · intro w hSw; (try dsimp only at hSw); go_simp <;> (try with_reducible rfl)
              try simp only [Act.put, List.getElem_toArray, List.getElem_cons_succ, List.getElem_cons_zero, List.setIfInBounds_toArray, List.set_cons_zero, List.set_cons_succ]
              refine wpAnyJ_ready (rs := [10]) (by kernel_rfl) (by simp) ?_
              refine AllReadyJ.cons (o := _) rfl (fun Kq hKq => ?_) ?_
              · go_simp
                refine hKq.out _ _ ?_ (fun hHeld => ?_)
                · intro hl; exact absurd hl (by decide)
                clear hKq Kq
                try simp only [Act.put, List.getElem_toArray, List.getElem_cons_succ, List.getElem_cons_zero, List.setIfInBounds_toArray, List.set_cons_zero, List.set_cons_succ]
                refine wpAnyJ_done (by kernel_rfl) ?_ _
                clear hHeld x12
                go_wp2_with fail
                go_roundw
                case rel => exact ⟨k + 1, hk2 + 1, by omega, by first | rfl | go_num | (congr 1; omega), by have := hlk.out; omega, by rw [hnx.out.1, List.length_append, hl1.out]; rfl, by rw [hnx.out.2, List.length_append, hl2.out]; rfl, fun h => absurd h (by omega), by rw [hnx.out.1, hnx.out.2]; exact TT⟩
                case measure => simp [intOf]; omega
              exact AllReadyJ.nil
            exact AllReadyJ.nil
          exact AllReadyJ.nil
        refine AllReadyJ.cons (o := _) rfl (fun Kq hKq => ?_) ?_
        · go_simp
          have hal := balloc X (.cells #[.int .i64 lo, .int .i64 hi] 24)
          have L2 := Box.new X 24 [.int .i64 lo, .int .i64 hi]
          change Box (X.alloc (.cells #[.int .i64 lo, .int .i64 hi] 24)) _ _ _ at L2
          replace x12 := x12.below hal
          replace TT := TT.below hal
          replace L1 := L1.below hal
          clear hal
          generalize X.heap.size = g2 at L2 ⊢
          generalize X.alloc (.cells #[.int .i64 lo, .int .i64 hi] 24) = X at *
          refine hKq.out _ _ ?_ (fun hHeld => ?_)
          · intro _; (try dsimp only); exact ⟨x12.cell 1, x12.cell 2⟩
          clear hKq Kq
          try simp only [Act.put, List.getElem_toArray, List.getElem_cons_succ, List.getElem_cons_zero, List.setIfInBounds_toArray, List.set_cons_zero, List.set_cons_succ]
          refine wpAnyJ_ready (rs := [3]) (by kernel_rfl) (by simp) ?_
          refine AllReadyJ.cons (o := _) rfl (fun Kq hKq => ?_) ?_
          · skip
            refine step_appC (by rfl) (.tmp 57) (.tmp 59) 55 3 Tryz.underlying55 (by rfl) ti2 _ 1 8 hti2.out htz2.out hts2.out htb2.out (by rfl) (by omega) W0.heap.size (.slice Ah hk2 ch) hk2 _ (by rfl) (by have := TT.hr; rwa [hl1.out] at this) _ _ 1 _ (by rfl) (Sees.lit1F L1) (by simp [Value.oneCell']) (by have := hlk.out; unfold maxLen; omega) (by have := hlk.out; omega) TT.size ?_
            intro v' X' o1 gr1 d1
            obtain ⟨Aw, cw, rfl, -, -⟩ := (Sees.of_own o1).mk_
            have x12' := box_ty x12 TT.hr (by decide) gr1
            have L2' := box_ty L2 TT.hr (by decide) gr1
            have TT' := TT.app1 (by rw [hl1.out]; exact o1) gr1
            clear TT x12 L1 o1 gr1 d1 L2
            obtain ⟨X, rfl⟩ : ∃ X : World, X = X' := ⟨_, rfl⟩
            have x12 := x12'
            have TT := TT'
            clear x12' TT'
            have L2 := L2'
            clear L2'
            refine hKq.out _ _ ?_ (fun hHeld => ?_)
            · intro _; (try dsimp only); exact ⟨x12.cell 1, x12.cell 2⟩
            clear hKq Kq
            try simp only [Act.put, List.getElem_toArray, List.getElem_cons_succ, List.getElem_cons_zero, List.setIfInBounds_toArray, List.set_cons_zero, List.set_cons_succ]
            refine wpAnyJ_ready (rs := [8]) (by kernel_rfl) (by simp) ?_
            refine AllReadyJ.cons (o := _) rfl (fun Kq hKq => ?_) ?_
            · skip
              refine step_appC (by rfl) (.tmp 61) (.tmp 64) 67 24 Tryz.underlying67 (by rfl) ti _ 2 16 hti.out htz.out hts.out htb.out (by rfl) (by omega) W0.heap.size (.slice As hk2 cs) hk2 _ (by rfl) (by have := TT.sr; rwa [hl2.out] at this) _ _ 1 _ (by rfl) (Sees.lit2F L2) (by simp [Value.oneCell']) (by have := hlk.out; unfold maxLen; omega) (by have := hlk.out; omega) TT.size ?_
              intro v' X' o1 gr1 d1
              obtain ⟨Av, cv, rfl, -, -⟩ := (Sees.of_own o1).mk_
              have x12' := box_ty x12 TT.sr (by decide) gr1
              have TT' := TT.app2 (by rw [hl2.out]; exact o1) gr1
              clear TT x12 L2 o1 gr1 d1
              obtain ⟨X, rfl⟩ : ∃ X : World, X = X' := ⟨_, rfl⟩
              have x12 := x12'
              have TT := TT'
              clear x12' TT'
              refine hKq.out _ _ ?_ (fun hHeld => ?_)
              · intro _; (try dsimp only); exact ⟨x12.cell 1, x12.cell 2⟩
              clear hKq Kq
              try simp only [Act.put, List.getElem_toArray, List.getElem_cons_succ, List.getElem_cons_zero, List.setIfInBounds_toArray, List.set_cons_zero, List.set_cons_succ]
              refine wpAnyJ_take0 (i := 9) (v := ?_) rfl (by kernel_rfl) (by kernel_rfl) (by kernel_rfl) (fun _ _ _ h => h) (by rfl) (Or.inl ⟨by rfl, ?_⟩) (by assumption) ?_
              rotate_left 1
              · intro w hSw; (try dsimp only at hSw); go_simp <;> (try with_reducible rfl)
              try simp only [Act.put, List.getElem_toArray, List.getElem_cons_succ, List.getElem_cons_zero, List.setIfInBounds_toArray, List.set_cons_zero, List.set_cons_succ]
              refine wpAnyJ_ready (rs := [10]) (by kernel_rfl) (by simp) ?_
              refine AllReadyJ.cons (o := _) rfl (fun Kq hKq => ?_) ?_
              · go_simp
                refine hKq.out _ _ ?_ (fun hHeld => ?_)
                · intro hl; exact absurd hl (by decide)
                clear hKq Kq
                try simp only [Act.put, List.getElem_toArray, List.getElem_cons_succ, List.getElem_cons_zero, List.setIfInBounds_toArray, List.set_cons_zero, List.set_cons_succ]
                refine wpAnyJ_done (by kernel_rfl) ?_ _
                clear hHeld x12
                go_wp2_with fail
                go_roundw
                case rel => exact ⟨k + 1, hk2 + 1, by omega, by first | rfl | go_num | (congr 1; omega), by have := hlk.out; omega, by rw [hnx.out.1, List.length_append, hl1.out]; rfl, by rw [hnx.out.2, List.length_append, hl2.out]; rfl, fun h => absurd h (by omega), by rw [hnx.out.1, hnx.out.2]; exact TT⟩
                case measure => simp [intOf]; omega
              exact AllReadyJ.nil
            exact AllReadyJ.nil
          exact AllReadyJ.nil
        exact AllReadyJ.nil
      refine AllReadyJ.cons (o := _) rfl (fun Kq hKq => ?_) ?_
      · go_simp
        have hal := balloc X (.cells #[.int .i64 lo, .int .i64 hi] 24)
        have L2 := Box.new X 24 [.int .i64 lo, .int .i64 hi]
        change Box (X.alloc (.cells #[.int .i64 lo, .int .i64 hi] 24)) _ _ _ at L2
        replace x12 := x12.below hal
        replace TT := TT.below hal
        clear hal
        generalize X.heap.size = g2 at L2 ⊢
        generalize X.alloc (.cells #[.int .i64 lo, .int .i64 hi] 24) = X at *
        refine hKq.out _ _ ?_ (fun hHeld => ?_)
        · intro _; (try dsimp only); exact ⟨x12.cell 1, x12.cell 2⟩
        clear hKq Kq
        try simp only [Act.put, List.getElem_toArray, List.getElem_cons_succ, List.getElem_cons_zero, List.setIfInBounds_toArray, List.set_cons_zero, List.set_cons_succ]
        refine wpAnyJ_ready (rs := [2]) (by kernel_rfl) (by simp) ?_
        refine AllReadyJ.cons (o := _) rfl (fun Kq hKq => ?_) ?_
        · go_simp
          have hal := balloc X (.cells #[.int .i64 (k : Int)] 3)
          have L1 := Box.new X 3 [.int .i64 (k : Int)]
          change Box (X.alloc (.cells #[.int .i64 (k : Int)] 3)) _ _ _ at L1
          replace x12 := x12.below hal
          replace TT := TT.below hal
          replace L2 := L2.below hal
          clear hal
          generalize X.heap.size = g1 at L1 ⊢
          generalize X.alloc (.cells #[.int .i64 (k : Int)] 3) = X at *
          refine hKq.out _ _ ?_ (fun hHeld => ?_)
          · intro _; (try dsimp only); exact ⟨x12.cell 1, x12.cell 2⟩
          clear hKq Kq
          try simp only [Act.put, List.getElem_toArray, List.getElem_cons_succ, List.getElem_cons_zero, List.setIfInBounds_toArray, List.set_cons_zero, List.set_cons_succ]
          refine wpAnyJ_ready (rs := [3]) (by kernel_rfl) (by simp) ?_
          refine AllReadyJ.cons (o := _) rfl (fun Kq hKq => ?_) ?_
          · skip
            refine step_appC (by rfl) (.tmp 57) (.tmp 59) 55 3 Tryz.underlying55 (by rfl) ti2 _ 1 8 hti2.out htz2.out hts2.out htb2.out (by rfl) (by omega) W0.heap.size (.slice Ah hk2 ch) hk2 _ (by rfl) (by have := TT.hr; rwa [hl1.out] at this) _ _ 1 _ (by rfl) (Sees.lit1F L1) (by simp [Value.oneCell']) (by have := hlk.out; unfold maxLen; omega) (by have := hlk.out; omega) TT.size ?_
            intro v' X' o1 gr1 d1
            obtain ⟨Aw, cw, rfl, -, -⟩ := (Sees.of_own o1).mk_
            have x12' := box_ty x12 TT.hr (by decide) gr1
            have L2' := box_ty L2 TT.hr (by decide) gr1
            have TT' := TT.app1 (by rw [hl1.out]; exact o1) gr1
            clear TT x12 L1 o1 gr1 d1 L2
            obtain ⟨X, rfl⟩ : ∃ X : World, X = X' := ⟨_, rfl⟩
            have x12 := x12'
            have TT := TT'
            clear x12' TT'
            have L2 := L2'
            clear L2'
            refine hKq.out _ _ ?_ (fun hHeld => ?_)
            · intro _; (try dsimp only); exact ⟨x12.cell 1, x12.cell 2⟩
            clear hKq Kq
            try simp only [Act.put, List.getElem_toArray, List.getElem_cons_succ, List.getElem_cons_zero, List.setIfInBounds_toArray, List.set_cons_zero, List.set_cons_succ]
            refine wpAnyJ_ready (rs := [8]) (by kernel_rfl) (by simp) ?_
            refine AllReadyJ.cons (o := _) rfl (fun Kq hKq => ?_) ?_
            · skip
              refine step_appC (by rfl) (.tmp 61) (.tmp 64) 67 24 Tryz.underlying67 (by rfl) ti _ 2 16 hti.out htz.out hts.out htb.out (by rfl) (by omega) W0.heap.size (.slice As hk2 cs) hk2 _ (by rfl) (by have := TT.sr; rwa [hl2.out] at this) _ _ 1 _ (by rfl) (Sees.lit2F L2) (by simp [Value.oneCell']) (by have := hlk.out; unfold maxLen; omega) (by have := hlk.out; omega) TT.size ?_
              intro v' X' o1 gr1 d1
              obtain ⟨Av, cv, rfl, -, -⟩ := (Sees.of_own o1).mk_
              have x12' := box_ty x12 TT.sr (by decide) gr1
              have TT' := TT.app2 (by rw [hl2.out]; exact o1) gr1
              clear TT x12 L2 o1 gr1 d1
              obtain ⟨X, rfl⟩ : ∃ X : World, X = X' := ⟨_, rfl⟩
              have x12 := x12'
              have TT := TT'
              clear x12' TT'
              refine hKq.out _ _ ?_ (fun hHeld => ?_)
              · intro _; (try dsimp only); exact ⟨x12.cell 1, x12.cell 2⟩
              clear hKq Kq
              try simp only [Act.put, List.getElem_toArray, List.getElem_cons_succ, List.getElem_cons_zero, List.setIfInBounds_toArray, List.set_cons_zero, List.set_cons_succ]
              refine wpAnyJ_take0 (i := 9) (v := ?_) rfl (by kernel_rfl) (by kernel_rfl) (by kernel_rfl) (fun _ _ _ h => h) (by rfl) (Or.inl ⟨by rfl, ?_⟩) (by assumption) ?_
              rotate_left 1
              · intro w hSw; (try dsimp only at hSw); go_simp <;> (try with_reducible rfl)
              try simp only [Act.put, List.getElem_toArray, List.getElem_cons_succ, List.getElem_cons_zero, List.setIfInBounds_toArray, List.set_cons_zero, List.set_cons_succ]
              refine wpAnyJ_ready (rs := [10]) (by kernel_rfl) (by simp) ?_
              refine AllReadyJ.cons (o := _) rfl (fun Kq hKq => ?_) ?_
              · go_simp
                refine hKq.out _ _ ?_ (fun hHeld => ?_)
                · intro hl; exact absurd hl (by decide)
                clear hKq Kq
                try simp only [Act.put, List.getElem_toArray, List.getElem_cons_succ, List.getElem_cons_zero, List.setIfInBounds_toArray, List.set_cons_zero, List.set_cons_succ]
                refine wpAnyJ_done (by kernel_rfl) ?_ _
                clear hHeld x12
                go_wp2_with fail
                go_roundw
                case rel => exact ⟨k + 1, hk2 + 1, by omega, by first | rfl | go_num | (congr 1; omega), by have := hlk.out; omega, by rw [hnx.out.1, List.length_append, hl1.out]; rfl, by rw [hnx.out.2, List.length_append, hl2.out]; rfl, fun h => absurd h (by omega), by rw [hnx.out.1, hnx.out.2]; exact TT⟩
                case measure => simp [intOf]; omega
              exact AllReadyJ.nil
            exact AllReadyJ.nil
          exact AllReadyJ.nil
        exact AllReadyJ.nil
      exact AllReadyJ.nil
    · replace hsk := Lib.hid (hsk.out hv0)
      generalize vacc r (uV, CS, lo, hi) = C at *
      have hv1 : (C == 0) = false := by simpa using hv0
      clear hnx x12
      go_wp2_with fail
      go_roundw
      case rel => exact ⟨k + 1, hk2, by omega, by first | rfl | go_num | (congr 1; omega), by have := hlk.out; omega, by rw [hsk.out.1, hl1.out], by rw [hsk.out.2, hl2.out], fun h => by have := hni.out h; rwa [hl2.out] at this, by rw [hsk.out.1, hsk.out.2]; exact TT⟩
      case measure => simp [intOf]; omega
  · have i9 : ¬ (k : Int) < (n : Int) := by omega
    have hkn : Hid (k = n) := by show _ = _; omega
    have hb1 : Hid (Below w.heap.size w wr) := bgo hb0.out TT.out.old
    have x6k := x6'.out.below TT.out.old
    have hg6l : g6 < W0.heap.size := x6'.out.lt
    have hle := sleastE_any wr.heap.size (.slice As (spansN r ts k).length cs) (spansN r ts k) ((n : Int) - f) wr (OwnS.sees TT.out.sr) (Nat.le_refl _) (by omega) (by
     rcases Nat.eq_zero_or_pos hk2 with h | h
     · exact .inr ⟨List.eq_nil_of_length_eq_zero (by omega), hni.out h⟩
     · exact .inl (by omega)) (List.all_eq_true.2 (spansN_ok r ts k)) (by omega) (by omega)
    have hrow := TT.out.hr
    have hbs := TT.out.size
    rw [hl1] at hrow ⊢
    rw [hl2] at hle ⊢
    have hfin1 : Hid (∀ w' : World, IsHull (spansN r ts k) ((n : Int) - f) none → Below w.heap.size w w' → FirstVP r ts f w (.returned (.tuple #[.agg #[.int .i64 0, .int .i64 0], .slice none 0 0, .int .i64 21])) w') := fun w' h hb => first_none (by rw [hN.out]; omega) (by rw [hN.out]; exact ⟨hf1, hf2⟩) (by rw [hN.out]; rwa [hkn.out] at h) hb
    have hfin2 : Hid (∀ (w' : World) (lo hi : Int), IsHull (spansN r ts k) ((n : Int) - f) (some (lo, hi)) → SeesT w' w'.heap.size (.slice Ah hk2 ch) (heardN r ts k) → Below w.heap.size w w' → FirstVP r ts f w (.returned (.tuple #[.agg #[.int .i64 lo, .int .i64 hi], .slice Ah hk2 ch, .int .i64 0])) w') := fun w' lo hi h hs hb => first_some (by rw [hN.out]; omega) (by rw [hN.out]; exact ⟨hf1, hf2⟩) (by rw [hN.out]; rwa [hkn.out] at h) (by rw [hN.out]; rwa [hkn.out] at hs) hb
    have hll : Hid ((heardN r ts k).length = hk2) := hl1
    replace hrow := Lib.hid hrow
    replace hle := Lib.hid hle
    generalize spansN r ts k = SP at *
    generalize heardN r ts k = HP at *
    clear hl hN hV TT hni hacc x6' hl1 hl2 TT0
    go_wp2_with fail
    refine hle.out.mono ?_
    rintro e w1 ⟨v15, out, rfl, ho, hA, hlo, hb2⟩
    obtain ⟨A15, c15, rfl, -, -⟩ := (Sees.of_own ho).mk_
    have hbw := Lib.hid (bgo hb1.out hb2)
    have x4 := x6k.below hb2
    have hrow1 := Lib.hid (own_below hrow.out hb2)
    have hg6b : Hid (g6 < wr.heap.size) := Nat.lt_of_lt_of_le hg6l hbs
    clear hle hb1 hrow x6k
    obtain ⟨k0, k1, k2, k3⟩ := box2_cells x4
    rcases Nat.eq_zero_or_pos out.length with h9 | h9
    · obtain rfl : out = [] := List.eq_nil_of_length_eq_zero h9
      have x7 := box_set2 x4 (.int .i64 0) (.int .i64 0)
      have hb9 := Lib.hid (below_set2 (g := g6) hbw.out (Nat.le_of_eq hg6.out.symm) (.int .i64 0) (.int .i64 0))
      have hfin := Lib.hid (hfin1.out _ hA.none hb9.out)
      dsimp only
      simp only [List.length_nil]
      clear ho hlo h9 hA hfin1 hfin2 hbw hb9 hrow1
      go_wp2_with fail
      clear k0 k1 k2 k3
      obtain ⟨k0, k1⟩ := boxT2 x7
      refine bodyPost_ret (v := .tuple #[.agg #[.int .i64 0, .int .i64 0], .slice none 0 0, .int .i64 21]) (by simp [results, Tryz.results45, go_sem, k0, k1]) rfl ?_
      exact hfin.out
    · obtain ⟨g15, c6, e6, g6B, -, -, -, hc6⟩ := own_form ho h9
      injection e6 with e6 _ e6'
      subst e6 e6'
      obtain ⟨a, ha⟩ : ∃ a, out[0]? = some a := ⟨_, List.getElem?_eq_getElem h9⟩
      obtain ⟨b, hb⟩ : ∃ b, out[out.length - 1]? = some b := ⟨_, List.getElem?_eq_getElem (by omega)⟩
      have d0 : w1.cell? ⟨g15, 0, none⟩ = some (.int .i64 a.1) := by have := hc6 _ _ (spV_get _ _ _ ha).1; simpa using this
      obtain ⟨m, hm⟩ : ∃ m, out.length = m + 1 := ⟨out.length - 1, by omega⟩
      have d1 : w1.cell? ⟨g15, m * 2 + 1, none⟩ = some (.int .i64 b.2) := by have := hc6 _ _ (spV_get _ _ _ hb).2; rw [hm] at this; simpa using this
      have hfin := fun w' => hfin2.out w' a.1 b.2 (hA.some ha hb)
      replace hfin := Lib.hid hfin
      rw [hm] at hlo ⊢
      generalize a.1 = lo at *
      generalize b.2 = hi at *
      clear ho hc6 ha hb hA h9 hfin1 hfin2
      replace hm := Lib.hid hm
      have x7 := box_set2 x4 (.int .i64 lo) (.int .i64 hi)
      have hb9 := Lib.hid (below_set2 (g := g6) hbw.out (Nat.le_of_eq hg6.out.symm) (.int .i64 lo) (.int .i64 hi))
      have hro : Hid (World.ownsRow ((w1.setCell ⟨g6, 0, none⟩ (.int .i64 lo)).setCell ⟨g6, 1, none⟩ (.int .i64 hi)) W0.heap.size 3 1 (.slice Ah hk2 ch) hk2 (HP.map fun x => Value.int .i64 x)) := row_tape (row_tape hrow1.out (setCell_grown w1 g6 0 _) hg6l) (setCell_grown _ g6 1 _) hg6l
      have e1 : IntKind.i64.wrap (((m + 1 : Nat) : Int) - 1) = (m : Int) := by rw [IntKind.wrap_i64]; omega
      have i11 : (0 : Int) ≤ (m : Int) := by omega
      have i12 : (m : Int) < ((m + 1 : Nat) : Int) := by omega
      have i13 : (0 : Int) < ((m + 1 : Nat) : Int) := by omega
      have i14 : (((m + 1 : Nat) : Int) == 0) = false := by rw [beq_eq_false_iff_ne]; omega
      have e1' : IntKind.i64.wrap ((m : Int) + 1 - 1) = (m : Int) := by rw [IntKind.wrap_i64]; omega
      have e1'' : IntKind.i64.wrap (m : Int) = (m : Int) := by rw [IntKind.wrap_i64]; omega
      have i12' : (m : Int) < (m : Int) + 1 := by omega
      have i13' : (0 : Int) < (m : Int) + 1 := by omega
      have s0 : ((w1.setCell ⟨g6, 0, none⟩ (.int .i64 lo)).setCell ⟨g6, 1, none⟩ (.int .i64 hi)).cell? ⟨g15, 0, none⟩ = some (.int .i64 lo) := by
       rw [World.cell?_setCell_other _ _ _ _ (fun e => by injection e with e; have := hg6b.out; omega), World.cell?_setCell_other _ _ _ _ (fun e => by injection e with e; have := hg6b.out; omega)]; exact d0
      have s1 : ((w1.setCell ⟨g6, 0, none⟩ (.int .i64 lo)).setCell ⟨g6, 1, none⟩ (.int .i64 hi)).cell? ⟨g15, m * 2 + 1, none⟩ = some (.int .i64 hi) := by
       rw [World.cell?_setCell_other _ _ _ _ (fun e => by injection e with e; have := hg6b.out; omega), World.cell?_setCell_other _ _ _ _ (fun e => by injection e with e; have := hg6b.out; omega)]; exact d1
      clear hrow1 hbw hg6b hg6l hbs
      dsimp only
      go_wp2_with fail
      go_region_held3 (fun W => W.cell? ⟨g15, 0, none⟩ = some (.int .i64 lo) ∧ W.cell? ⟨g15, m * 2 + 1, none⟩ = some (.int .i64 hi)) (go_keep) (fail)
      go_wp2_with fail
      replace x7 := x7.below (bdrew _)
      clear k0 k1 k2 k3 s0 s1
      obtain ⟨k0, k1⟩ := boxT2 x7
      refine bodyPost_ret (v := .tuple #[.agg #[.int .i64 lo, .int .i64 hi], .slice Ah hk2 ch, .int .i64 0]) (by simp [results, Tryz.results45, go_sem, k0, k1]) rfl ?_
      exact hfin.out _ (by have := Sees.of_own hro.out; unfold SeesT; rw [hll.out]; exact this) (bgo hb9.out (bdrew _))
end Go.Proofs.YtjgepckncogdaaaGreat

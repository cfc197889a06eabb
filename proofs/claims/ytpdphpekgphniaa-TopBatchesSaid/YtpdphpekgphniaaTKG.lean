/- Contracts of (*tree.growth).next and roots: what a proof of growth that was made gives. Conditions: those of each theorem. -/
import Derived.Test.YtpdphpekgphniaaTKA
namespace Go.Proofs.Ytpdphpekgphniaa
open Go.RowKit
set_option linter.unusedVariables false
attribute [local go_sem ↓] Go.wp_at_zero Go.wp_at_succ
/-- The value does not lie in this block. -/
def FarV (g : Nat) (v : Value) : Prop := ∀ k, v.ownBlock = some k → k ≠ g
theorem SeesB.farGrown {w w' : World} {g : Nat} {v : Value} {l : Bs} (h : SeesB w w.heap.size v l) (hf : FarV g v) (hg : w.grownBy w' (some g)) : SeesB w' w'.heap.size v l :=
  SeesB.more (h.stay fun hl k hk p hp => World.cell?_of_block (hg.block p.block (by rw [hp]; exact h.blk hl k hk) (fun e => by injection e with e; exact hf k hk (by rw [← hp]; exact e)))) hg.size
theorem below_grownG {w w' : World} {B g : Nat} (hg : w.grownBy w' (some g)) (hB : B ≤ g) (hB2 : B ≤ w.heap.size) : Below B w w' :=
  (Below.refl B w).grown hg hB2 (fun k hk => by injection hk with hk; omega)
def NextPost (g B : Nat) (uo : Value) (x : Bs) (rest : List Bs) (w : World) (e : Ending) (w' : World) : Prop :=
  ∃ v up, e = .returned v ∧ SeesB w' B v x ∧ Box w' g 85 [uo, up, .bool false] ∧ SeesL w' B up rest ∧ w.grownBy w' (some g)
set_option maxRecDepth 100000 in
theorem next_any (g B : Nat) (uo up : Value) (x : Bs) (rest : List Bs) (w : World) (hx : Box w g 85 [uo, up, .bool false]) (hu : SeesL w B up (x :: rest)) (hB : B ≤ g) (hr : rest.length ≤ 4096) :
    Calls Try.prog 75 #[.pointer (some ⟨g, 0, none⟩)] w (NextPost g B uo x rest w) := by
  have hlt := hx.lt
  obtain ⟨A, c, rfl, hc1, hc2⟩ := hu.mk_
  have hcut := fun W => run_cut_from (P := Try.prog) 41 Try.underlying41 1 slice_size A (x :: rest).length c .i64 1 (by omega) (by simp; omega) W
  have hsee := SeesL.cut (a := 1) (b := (x :: rest).length) hu (by simp) (Nat.le_refl _)
  rw [List.drop_one, List.tail_cons, List.take_of_length_le (by simp)] at hsee
  obtain ⟨b, o, rfl, hb, hcell⟩ := hu.at_ (by simp)
  obtain ⟨A', c', hc, g1, g2, hs⟩ := hcell 0 (by simp)
  have e0 : (x :: rest).getD 0 [] = x := rfl
  rw [e0] at hc hs
  rw [Nat.add_zero] at hc
  rw [List.length_cons] at hcut hsee hx
  obtain ⟨y0, y1, y2, f0, f1, f2⟩ := box3_cells hx
  have hne : b ≠ g := by omega
  have hcut2 : ∀ W, (Instr.slice 41 (.slice (some ⟨b, o, none⟩) (rest.length + 1) c) (some (.int .i64 1)) none none).run Try.prog W = .ok (.slice (cutA (some ⟨b, o, none⟩) c 1 1) (rest.length + 1 - 1) (c - 1)) W := hcut
  clear hcut
  generalize cutA (some ⟨b, o, none⟩) c 1 1 = A2 at *
  rw [Nat.add_sub_cancel] at hcut2 hsee
  have hst := hx.set 1 (.slice A2 rest.length (c - 1))
  simp only [List.set_cons_succ, List.set_cons_zero] at hst
  have hgr := setCell_grown w g 1 (.slice A2 rest.length (c - 1))
  have hbl := below_grownG hgr hB (by omega)
  replace hx := Lib.hid hx
  replace hst := Lib.hid hst
  replace hgr := Lib.hid hgr
  replace hbl := Lib.hid hbl
  replace hs := Lib.hid hs
  replace hsee := Lib.hid hsee
  clear hcell hu hc1 hc2
  have i1 : (0 : Int) < (rest.length : Int) + 1 := by omega
  have i2 : ((rest.length : Int) + 1 == 0) = false := by rw [beq_eq_false_iff_ne]; omega
  have i3 : ¬ ((rest.length : Int) + 1 = 0) := by omega
  go_enter Try.func75, Try.ntmps75
  go_wp2_with (simp only [hcut2])
  go_ret
  exact ⟨_, _, rfl, hs.out.below hbl.out, hst.out, hsee.out.below hbl.out, hgr.out⟩
theorem far_of {w : World} {B g : Nat} {v : Value} {l : Bs} (h : SeesB w B v l) (hl : l.length = 32) (hB : B ≤ g) : FarV g v := fun k hk e => by
  have := h.blk (fun e => by rw [e] at hl; cases hl) k hk
  omega
theorem own_far {w : World} {base g : Nat} {v : Value} {l : Bs} (h : OwnB w base v l) (hb : g < base) : FarV g v := fun k hk e => by
  have := (World.ownsRow.lt h k hk).1
  omega
theorem take_left (hs : List Bs) (i k : Nat) (h : i ≤ k) : (hs.take k).take i = hs.take i := by rw [List.take_take, Nat.min_eq_left h]
theorem split_mid (n i : Nat) (h2 : 2 ≤ n) (hi : splitN n < i) (hn : i ≤ n) : splitN i = splitN n := by
  have h := splitN_lt n h2
  refine splitN_of i (n - 1).log2 (by have := h.2.1; omega) hi (by have := h.2.2; unfold splitN at this; omega)
theorem take_right (hs : List Bs) (i : Nat) (h2 : 2 ≤ hs.length) (hi : splitN hs.length < i) (hn : i ≤ hs.length) :
    rootG (hs.take i) = nodeH (rootG (hs.take (splitN hs.length))) (rootG ((hs.drop (splitN hs.length)).take (i - splitN hs.length))) := by
  have h := splitN_lt hs.length h2
  have hl : (hs.take i).length = i := by rw [List.length_take]; omega
  rw [rootG_two _ (by rw [hl]; have := h.2.1; omega), hl, split_mid _ _ h2 hi hn, take_left _ _ _ (Nat.le_of_lt hi), List.drop_take]
def RootsPost (g B : Nat) (uo : Value) (a b : Bs) (rest : List Bs) (w : World) (e : Ending) (w' : World) : Prop :=
  ∃ v1 v2 up, e = .returned (.tuple #[v1, v2]) ∧ SeesB w' w'.heap.size v1 a ∧ FarV g v1 ∧ SeesB w' w'.heap.size v2 b ∧ FarV g v2 ∧ Box w' g 85 [uo, up, .bool false] ∧ SeesL w' B up rest ∧ w.grownBy w' (some g)
theorem grown_same (w : World) (g : Nat) : w.grownBy w (some g) := ⟨rfl, rfl, rfl, Nat.le_refl _, fun _ _ _ => rfl⟩
theorem box_grown {w w' : World} {g : Nat} {T : TypeId} {xs : List Value} (h : Box w g T xs) (hb : Below w.heap.size w w') : Box w' g T xs := h.below hb
set_option maxRecDepth 100000 in
set_option maxHeartbeats 2000000 in
theorem roots_any (g B : Nat) (uo : Value) (hBg : B ≤ g) (m : Nat) : ∀ (hs : List Bs) (i : Nat) (kn : Bool) (rest : List Bs) (up : Value) (w : World), hs.length ≤ m → 1 ≤ i → i ≤ hs.length → hs.length ≤ 1024 → (∀ l ∈ hs, l.length = 32) →
    rest.length + hs.length ≤ 2048 → Box w g 85 [uo, up, .bool false] → SeesL w B up (proofG hs i kn ++ rest) → (kn = true → SeesB w B uo (rootG (hs.take i))) →
    Calls Try.prog 48 #[.pointer (some ⟨g, 0, none⟩), .int .i64 (i : Int), .int .i64 (hs.length : Int), .bool kn] w (RootsPost g B uo (rootG (hs.take i)) (rootG hs) rest w) := by
  induction m with
  | zero => intro hs i kn rest up w hm hi hi2; omega
  | succ m ih =>
    intro hs i kn rest up w hm hi hi2 hn hl hr hx hp hk
    have hBw : B ≤ w.heap.size := Nat.le_trans hBg (Nat.le_of_lt hx.lt)
    by_cases hfull : i = hs.length
    · subst hfull
      have hrl := rootG_len hs hl
      rw [List.take_length] at hk ⊢
      have j1 : ((hs.length : Int) == (hs.length : Int)) = true := by simp
      cases kn with
      | true =>
        have hp2 := proofG_full hs hs.length rfl true
        rw [if_pos rfl] at hp2
        rw [hp2, List.nil_append] at hp
        have ho := hk rfl
        obtain ⟨y0, y1, y2, -⟩ := box3_cells hx
        have hres : RootsPost g B uo (rootG hs) (rootG hs) rest w (.returned (.tuple #[uo, uo])) w.drew :=
          ⟨uo, uo, up, rfl, ho.more hBw, far_of ho hrl hBg, ho.more hBw, far_of ho hrl hBg, hx, hp, gbelow (bdrew w)⟩
        replace hres := Lib.hid hres
        generalize rootG hs = R at *
        replace hx := Lib.hid hx
        clear ih hp ho hk
        go_enter Try.func48, Try.ntmps48
        go_wp2_with fail
        go_region
        all_goals
          go_wp2_with fail
          refine bodyPost_ret (v := .tuple #[uo, uo]) (by simp [results, Try.results48, go_sem]) rfl ?_
          exact hres.out
      | false =>
        have hp2 := proofG_full hs hs.length rfl false
        simp only [Bool.false_eq_true, if_false] at hp2
        rw [hp2] at hp
        have hnx := next_any g B uo up (rootG hs) rest w hx hp hBg (by omega)
        generalize rootG hs = R at *
        replace hnx := Lib.hid hnx
        clear ih hp hk hp2 hx
        go_enter Try.func48, Try.ntmps48
        go_wp2_with fail
        refine hnx.out.mono ?_
        rintro e W1 ⟨v, up1, rfl, h1, hx1, hp1, hg1⟩
        have hres : RootsPost g B uo R R rest w (.returned (.tuple #[v, v])) W1 :=
          ⟨v, v, up1, rfl, h1.more (Nat.le_trans hBw hg1.size), far_of h1 hrl hBg, h1.more (Nat.le_trans hBw hg1.size), far_of h1 hrl hBg, hx1, hp1, hg1⟩
        replace hres := Lib.hid hres
        dsimp only
        go_wp2_with fail
        refine bodyPost_ret (v := .tuple #[v, v]) (by simp [results, Try.results48, go_sem]) rfl ?_
        exact hres.out
    · have h2 : 2 ≤ hs.length := by omega
      have hsp := splitN_lt hs.length h2
      have hhf := half_any hs.length w h2 hn
      have hl1 : ∀ l ∈ hs.take (splitN hs.length), l.length = 32 := fun l hl' => hl l (List.mem_of_mem_take hl')
      have hl2 : ∀ l ∈ hs.drop (splitN hs.length), l.length = 32 := fun l hl' => hl l (List.mem_of_mem_drop hl')
      have n1 : (hs.take (splitN hs.length)).length = splitN hs.length := by rw [List.length_take]; omega
      have n2 : (hs.drop (splitN hs.length)).length = hs.length - splitN hs.length := by rw [List.length_drop]
      have r1 := rootG_len _ hl1
      have r2 := rootG_len _ hl2
      have htwo := rootG_two hs h2
      have j5 : ((i : Int) == (hs.length : Int)) = false := by rw [beq_eq_false_iff_ne]; omega
      have j6 : ¬ ((i : Int) = (hs.length : Int)) := by omega
      by_cases hik : i ≤ splitN hs.length
      · rw [proofG_left hs i kn h2 hfull hik, List.append_assoc, List.singleton_append] at hp
        have hir := ih (hs.take (splitN hs.length)) i kn (rootG (hs.drop (splitN hs.length)) :: rest) up w (by omega) hi (by omega) (by omega) hl1 (by rw [List.length_cons]; omega) hx hp (by rw [take_left _ _ _ hik]; exact hk)
        rw [take_left _ _ _ hik, n1] at hir
        have hI := rootG_len (hs.take i) (fun l hl' => hl l (List.mem_of_mem_take hl'))
        have i0 : (i : Int) ≤ ((splitN hs.length : Nat) : Int) := by omega
        rw [htwo]
        have hnl : hs.length ≤ 1024 := hn
        generalize rootG (hs.take i) = RI at *
        generalize rootG (hs.drop (splitN hs.length)) = RD at *
        generalize rootG (hs.take (splitN hs.length)) = RT at *
        generalize splitN hs.length = k at *
        generalize hs.length = N at *
        replace hir := Lib.hid hir
        replace hhf := Lib.hid hhf
        clear ih hp hk hx hl1 hl2 n1 n2 htwo hl
        go_enter Try.func48, Try.ntmps48
        go_wp2_with fail
        refine hhf.out.mono ?_
        rintro e W0 ⟨rfl, rfl⟩
        dsimp only
        go_wp2_with fail
        refine hir.out.mono ?_
        rintro e W1 ⟨v1, v2, up1, rfl, h1, f1, h2', f2, hx1, hp1, hg1⟩
        have hB1 := Nat.le_trans hBw hg1.size
        have hnx := Lib.hid (next_any g B uo up1 RD rest W1 hx1 hp1 hBg (by omega))
        replace h1 := Lib.hid h1
        replace h2' := Lib.hid h2'
        replace hx1 := Lib.hid hx1
        replace hg1 := Lib.hid hg1
        clear hir hp1
        dsimp only
        go_wp2_with fail
        refine hnx.out.mono ?_
        rintro e W2 ⟨v3, up2, rfl, h3, hx2, hp2, hg2⟩
        have h12 := h1.out.farGrown f1 hg2
        have h22 := h2'.out.farGrown f2 hg2
        have h32 := h3.more (Nat.le_trans hB1 hg2.size)
        have hnd := Lib.hid (node_any _ _ _ RT RD W2 h22 h32 (Nat.le_refl _) (by omega) (by omega))
        have hg12 := ggo hg1.out hg2
        have hgl := hx2.lt
        replace h12 := Lib.hid h12
        replace hx2 := Lib.hid hx2
        replace hp2 := Lib.hid hp2
        replace hg12 := Lib.hid hg12
        clear hnx h1 h2' h3 h22 h32 hx1 hg1 hg2
        dsimp only
        go_wp2_with fail
        refine hnd.out.mono ?_
        rintro e W3 ⟨v4, rfl, h4, hb4⟩
        have hres : RootsPost g B uo RI (nodeH RT RD) rest W0 (.returned (.tuple #[v1, v4])) W3 :=
          ⟨v1, v4, up2, rfl, seesB_of h12.out (Nat.le_refl _) hb4, f1, h4.sees, own_far h4 hgl, hx2.out.below hb4, hp2.out.below (hb4.mono (Nat.le_trans hBg (Nat.le_of_lt hgl))), ggo hg12.out (gbelow hb4)⟩
        replace hres := Lib.hid hres
        clear hnd h4 hb4 hx2 hp2 hg12 h12
        dsimp only
        go_wp2_with fail
        refine bodyPost_ret (v := .tuple #[v1, v4]) (by simp [results, Try.results48, go_sem]) rfl ?_
        exact hres.out
      · have hik2 : splitN hs.length < i := by omega
        rw [proofG_right hs i kn h2 hfull hik, List.append_assoc, List.singleton_append] at hp
        have hir := ih (hs.drop (splitN hs.length)) (i - splitN hs.length) false (rootG (hs.take (splitN hs.length)) :: rest) up w (by omega) (by omega) (by omega) (by omega) hl2 (by rw [List.length_cons]; omega) hx hp (fun h => by cases h)
        rw [n2] at hir
        have hI := rootG_len ((hs.drop (splitN hs.length)).take (i - splitN hs.length)) (fun l hl' => hl2 l (List.mem_of_mem_take hl'))
        have i0 : ¬ ((i : Int) ≤ ((splitN hs.length : Nat) : Int)) := by omega
        have m1 : IntKind.i64.wrap ((i : Int) - ((splitN hs.length : Nat) : Int)) = ((i - splitN hs.length : Nat) : Int) := by rw [IntKind.wrap_i64]; omega
        have m2 : IntKind.i64.wrap ((hs.length : Int) - ((splitN hs.length : Nat) : Int)) = ((hs.length - splitN hs.length : Nat) : Int) := by rw [IntKind.wrap_i64]; omega
        rw [take_right hs i h2 hik2 hi2, htwo]
        generalize rootG ((hs.drop (splitN hs.length)).take (i - splitN hs.length)) = RI at *
        generalize rootG (hs.drop (splitN hs.length)) = RD at *
        generalize rootG (hs.take (splitN hs.length)) = RT at *
        generalize splitN hs.length = k at *
        generalize hs.length = N at *
        generalize hd1 : i - k = ik at *
        generalize hd2 : N - k = Nk at *
        replace hir := Lib.hid hir
        replace hhf := Lib.hid hhf
        replace hd1 := Lib.hid hd1
        replace hd2 := Lib.hid hd2
        clear ih hp hk hx hl1 hl2 n1 n2 htwo hl
        go_enter Try.func48, Try.ntmps48
        go_wp2_with fail
        refine hhf.out.mono ?_
        rintro e W0 ⟨rfl, rfl⟩
        dsimp only
        go_wp2_with fail
        refine hir.out.mono ?_
        rintro e W1 ⟨v1, v2, up1, rfl, h1, f1, h2', f2, hx1, hp1, hg1⟩
        have hB1 := Nat.le_trans hBw hg1.size
        have hnx := Lib.hid (next_any g B uo up1 RT rest W1 hx1 hp1 hBg (by omega))
        replace h1 := Lib.hid h1
        replace h2' := Lib.hid h2'
        replace hx1 := Lib.hid hx1
        replace hg1 := Lib.hid hg1
        clear hir hp1
        dsimp only
        go_wp2_with fail
        refine hnx.out.mono ?_
        rintro e W2 ⟨v3, up2, rfl, h3, hx2, hp2, hg2⟩
        have h12 := h1.out.farGrown f1 hg2
        have h22 := h2'.out.farGrown f2 hg2
        have h32 := h3.more (Nat.le_trans hB1 hg2.size)
        have hnd := Lib.hid (node_any _ _ _ RT RI W2 h32 h12 (Nat.le_refl _) (by omega) (by omega))
        have hg12 := ggo hg1.out hg2
        have hgl := hx2.lt
        replace h22 := Lib.hid h22
        replace h32 := Lib.hid h32
        replace hx2 := Lib.hid hx2
        replace hp2 := Lib.hid hp2
        replace hg12 := Lib.hid hg12
        clear hnx h1 h2' h3 h12 hx1 hg1 hg2
        dsimp only
        go_wp2_with fail
        refine hnd.out.mono ?_
        rintro e W3 ⟨v4, rfl, h4, hb4⟩
        have h23 := seesB_of h22.out (Nat.le_refl _) hb4
        have h33 := seesB_of h32.out (Nat.le_refl _) hb4
        have hnd2 := Lib.hid (node_any _ _ _ RT RD W3 h33 h23 (Nat.le_refl _) (by omega) (by omega))
        have hx3 := Lib.hid (hx2.out.below hb4)
        have hp3 := Lib.hid (hp2.out.below (hb4.mono (Nat.le_trans hBg (Nat.le_of_lt hgl))))
        have hg13 := Lib.hid (ggo hg12.out (gbelow hb4))
        have f4 := own_far h4 hgl
        have hgl3 : g < W3.heap.size := hx3.out.lt
        replace h4 := Lib.hid h4.sees
        clear hnd hb4 h22 h32 hx2 hp2 hg12 h23 h33
        dsimp only
        go_wp2_with fail
        refine hnd2.out.mono ?_
        rintro e W4 ⟨v5, rfl, h5, hb5⟩
        have hres : RootsPost g B uo (nodeH RT RI) (nodeH RT RD) rest W0 (.returned (.tuple #[v4, v5])) W4 :=
          ⟨v4, v5, up2, rfl, seesB_of h4.out (Nat.le_refl _) hb5, f4, h5.sees, own_far h5 hgl3, hx3.out.below hb5, hp3.out.below (hb5.mono (Nat.le_trans hBg (Nat.le_of_lt hgl3))), ggo hg13.out (gbelow hb5)⟩
        replace hres := Lib.hid hres
        clear hnd2 h5 hb5 hx3 hp3 hg13 h4
        dsimp only
        go_wp2_with fail
        refine bodyPost_ret (v := .tuple #[v4, v5]) (by simp [results, Try.results48, go_sem]) rfl ?_
        exact hres.out
set_option maxRecDepth 100000 in
/-- A proof of growth that was made is accepted. -/
theorem growth_any (hs : List Bs) (i : Nat) (uo un up : Value) (w : World) (ho : SeesB w w.heap.size uo (rootG (hs.take i))) (hn : SeesB w w.heap.size un (rootG hs)) (hp : SeesL w w.heap.size up (proofG hs i true)) (hi : 1 ≤ i) (hi2 : i ≤ hs.length) (hl : hs.length ≤ 1024) (h32 : ∀ l ∈ hs, l.length = 32) :
    Calls Try.prog 24 #[uo, .int .i64 (i : Int), un, .int .i64 (hs.length : Int), up] w (BoolPost true w) := by
  have hb1 := balloc w (.cells #[uo, up, .bool false] 85)
  have hx1 := Box.new w 85 [uo, up, .bool false]
  have ho1 := ho.below hb1
  have hn1 := hn.below hb1
  have hrt := roots_any w.heap.size w.heap.size uo (Nat.le_refl _) hs.length hs i true [] up (w.alloc (.cells #[uo, up, .bool false] 85)) (Nat.le_refl _) hi hi2 hl h32 (by simp; omega) hx1 (by rw [List.append_nil]; exact hp.below hb1) (fun _ => ho1)
  have j1 : ¬ ((i : Int) < 1) := by omega
  have j2 : ¬ ((hs.length : Int) < (i : Int)) := by omega
  have j3 : ¬ ((1024 : Int) < (hs.length : Int)) := by omega
  obtain ⟨Ao, co, rfl, -, -⟩ := ho.mk_
  obtain ⟨An, cn, rfl, -, -⟩ := hn.mk_
  obtain ⟨Ap, cp, rfl, -, -⟩ := hp.mk_
  generalize rootG (hs.take i) = RO at *
  generalize rootG hs = RN at *
  generalize (proofG hs i true).length = pl at *
  generalize hs.length = N at *
  replace hrt := Lib.hid hrt
  replace ho1 := Lib.hid ho1
  replace hn1 := Lib.hid hn1
  replace hb1 := Lib.hid hb1
  clear hx1 ho hn hp h32
  go_enter Try.func24, Try.ntmps24
  go_wp2_with fail
  refine hrt.out.mono ?_
  rintro e W1 ⟨v1, v2, up1, rfl, h1, f1, h2, f2, hx2, hp2, hg⟩
  obtain ⟨A1, c1, rfl, -, -⟩ := hp2.mk_
  have hbg := below_grownG hg (Nat.le_refl w.heap.size) hb1.out.size
  have s1 : Calls Try.prog 47 #[v1, .slice Ao RO.length co] W1 (fun e w' => e = .returned (.bool true) ∧ w' = W1) := (same_any _ _ _ _ _ _ W1 h1 (ho1.out.below hbg)).mono (by rintro e w' ⟨rfl, rfl⟩; exact ⟨by rw [beq_self_eq_true], rfl⟩)
  have s2 : Calls Try.prog 47 #[v2, .slice An RN.length cn] W1 (fun e w' => e = .returned (.bool true) ∧ w' = W1) := (same_any _ _ _ _ _ _ W1 h2 (hn1.out.below hbg)).mono (by rintro e w' ⟨rfl, rfl⟩; exact ⟨by rw [beq_self_eq_true], rfl⟩)
  obtain ⟨y0, y1, y2, -⟩ := box3_cells hx2
  have y1' : W1.cell? ⟨w.heap.size, 1, none⟩ = some (.slice A1 0 c1) := y1
  clear y1
  have hball := hb1.out.trans hbg
  replace s1 := Lib.hid s1
  replace s2 := Lib.hid s2
  replace hball := Lib.hid hball
  clear hrt h1 h2 hx2 hp2 hg hbg f1 f2 y0
  dsimp only
  go_wp2_with fail
  refine s1.out.mono ?_
  rintro e W2 ⟨rfl, rfl⟩
  dsimp only
  go_wp2_with fail
  refine s2.out.mono ?_
  rintro e W3 ⟨rfl, rfl⟩
  dsimp only
  go_wp2_with fail
  go_ret
  exact ⟨rfl, hball.out⟩
end Go.Proofs.Ytpdphpekgphniaa

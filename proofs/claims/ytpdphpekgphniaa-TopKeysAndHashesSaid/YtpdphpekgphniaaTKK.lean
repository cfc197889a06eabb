/- Contracts of hash.Begin, Valid, More and End: the hash in steps. Conditions: those of each theorem. -/
import Derived.Test.YtpdphpekgphniaaTKA
import Derived.Laws.Cover3
namespace Go.Proofs.Ytpdphpekgphniaa
open Go.RowKit
set_option linter.unusedVariables false
attribute [local go_sem ↓] Go.wp_at_zero Go.wp_at_succ
theorem box_of_row {w : World} {g : Nat} {T : TypeId} {s : St} (h : w.rowIs g T 8 (fun i => wdV (stAt s i))) : Box w g T (stCells s) := by
  obtain ⟨c, hb, hn, hc⟩ := h
  have e : c = (stCells s).toArray := by
    refine Array.ext (by rw [hn]; rfl) fun i h1 h2 => ?_
    have h3 := hc i (by omega)
    rw [Array.getElem?_eq_getElem h1] at h3
    have h4 : (stCells s)[i]? = some (wdV (stAt s i)) := by
      match i, (show i < 8 by omega) with
      | 0, _ => rfl
      | 1, _ => rfl
      | 2, _ => rfl
      | 3, _ => rfl
      | 4, _ => rfl
      | 5, _ => rfl
      | 6, _ => rfl
      | 7, _ => rfl
    rw [Option.some.inj h3]
    rw [List.getElem?_eq_some_iff] at h4
    obtain ⟨h5, h6⟩ := h4
    rw [List.getElem_toArray, h6]
  subst e
  exact hb
/-- A computation in steps. -/
def HashV (w : World) (v : Value) (s : St) (rest : Bs) (count : Nat) : Prop :=
  ∃ g A c, v = .agg #[.slice (some ⟨g, 0, none⟩) 8 8, .slice A rest.length c, .int .i64 (count : Int)] ∧ Box w g 60 (stCells s) ∧ SeesB w w.heap.size (.slice A rest.length c) rest ∧ rest.length = count % 64
theorem HashV.below {w W : World} {v : Value} {s : St} {rest : Bs} {count : Nat} (h : HashV w v s rest count) (hb : Below w.heap.size w W) : HashV W v s rest count := by
  obtain ⟨g, A, c, h1, h2, h3, h4⟩ := h
  exact ⟨g, A, c, h1, h2.below hb, seesB_of h3 (Nat.le_refl _) hb, h4⟩
def BeginPost (w : World) (e : Ending) (w' : World) : Prop := ∃ v, e = .returned v ∧ HashV w' v st0 [] 0 ∧ Below w.heap.size w w'
set_option maxRecDepth 100000 in
theorem hbegin_any (w : World) : Calls Try.prog 9 #[] w (BeginPost w) := by
  go_enter Try.func9, Try.ntmps9
  go_wp2_with fail
  have hb0 := balloc w (.cells #[.slice none 0 0, .slice none 0 0, .int .i64 0] 28)
  have hx0 := Box.new w 28 [.slice none 0 0, .slice none 0 0, .int .i64 0]
  change Calls _ _ _ (w.alloc (.cells #[.slice none 0 0, .slice none 0 0, .int .i64 0] 28)) _
  generalize w.alloc (.cells #[.slice none 0 0, .slice none 0 0, .int .i64 0] 28) = W0 at *
  refine (first_any _).mono ?_
  rintro e w1 ⟨rfl, hb1⟩
  replace hx0 := hx0.below hb1
  replace hb1 := bgo hb0 hb1
  have hl1 := hx0.lt
  obtain ⟨q, hq⟩ : ∃ q : St, q = st0 := ⟨_, rfl⟩
  rw [← hq]
  replace hq := Lib.hid hq
  unfold wdV
  clear hb0
  obtain ⟨y0, y1, y2, f0, f1, f2⟩ := box3_cells hx0
  replace hx0 := Lib.hid hx0
  replace hb1 := Lib.hid hb1
  dsimp only
  go_wp2_with fail
  have kz := ((hx0.out.set 0 (.slice (some ⟨w1.heap.size, 0, none⟩) 8 8)).set 1 (.slice none 0 0)).set 2 (.int .i64 0)
  simp only [List.set_cons_succ, List.set_cons_zero] at kz
  have hb3 := ((hb1.out.setCell (p := ⟨w.heap.size, 0, none⟩) (Nat.le_refl _) (.slice (some ⟨w1.heap.size, 0, none⟩) 8 8)).setCell (p := ⟨w.heap.size, 1, none⟩) (Nat.le_refl _) (.slice none 0 0)).setCell (p := ⟨w.heap.size, 2, none⟩) (Nat.le_refl _) (.int .i64 0)
  have hsz : (((w1.setCell ⟨w.heap.size, 0, none⟩ (.slice (some ⟨w1.heap.size, 0, none⟩) 8 8)).setCell ⟨w.heap.size, 1, none⟩ (.slice none 0 0)).setCell ⟨w.heap.size, 2, none⟩ (.int .i64 0)).heap.size = w1.heap.size := by simp [World.setCell]
  clear y0 y1 y2 f0 f1 f2 hx0 hb1
  generalize ((w1.setCell ⟨w.heap.size, 0, none⟩ (.slice (some ⟨w1.heap.size, 0, none⟩) 8 8)).setCell ⟨w.heap.size, 1, none⟩ (.slice none 0 0)).setCell ⟨w.heap.size, 2, none⟩ (.int .i64 0) = w3 at *
  have hbx := Box.new w3 60 (stCells q)
  rw [hsz] at hbx
  have hb4 := balloc w3 (.cells (stCells q).toArray 60)
  have kz4 := kz.below hb4
  replace hb4 := bgo hb3 hb4
  change bodyPost _ _ _ _ _ (w3.alloc (.cells (stCells q).toArray 60))
  generalize w3.alloc (.cells (stCells q).toArray 60) = w4 at *
  obtain ⟨z0, z1, z2, -⟩ := box3_cells kz4
  refine bodyPost_ret (v := .agg #[.slice (some ⟨w1.heap.size, 0, none⟩) 8 8, .slice none 0 0, .int .i64 0]) (by simp [results, Try.results9, go_sem, z0, z1, z2]) rfl ?_
  rw [hq.out] at hbx
  exact ⟨_, rfl, ⟨_, none, 0, rfl, hbx, SeesB.nil _ _, rfl⟩, hb4⟩
theorem hvalid_any (g : Nat) (A : Option Addr) (count c : Nat) (hc : count ≤ 1099511627776) (w : World) :
    Calls Try.prog 27 #[.agg #[.slice (some ⟨g, 0, none⟩) 8 8, .slice A (count % 64) c, .int .i64 (count : Int)]] w (BoolPost true w) := by
  have hb := balloc w (.cells #[.slice (some ⟨g, 0, none⟩) 8 8, .slice A (count % 64) c, .int .i64 (count : Int)] 28)
  replace hb := Lib.hid hb
  go_enter Try.func27, Try.ntmps27
  go_wp2_with fail
  go_ret
  exact ⟨rfl, hb.out⟩
/-- Concat of a list that is written out. -/
theorem concat_lit0 {vs : List Value} (ls : List Bs) (W : World) (h : SeesAll W W.heap.size vs ls) (hm : vs.length ≤ 16) (hl : ls.flatten.length ≤ 1099511627776) :
    Calls Try.prog 29 #[.slice (some ⟨W.heap.size, 0, none⟩) vs.length vs.length] (W.alloc (.cells vs.toArray 22)) fun e w' => ∃ v, e = .returned v ∧ OwnB w' (W.heap.size + 1) v ls.flatten ∧ Below W.heap.size W w' := by
  refine (concat_any _ _ ls _ (seesL_lit W 22 h (by unfold maxLen; omega)) (Nat.le_refl _) hl).mono fun _ _ ⟨v, h1, h2, h3⟩ => ⟨v, h1, ?_, bgo (balloc W _) h3⟩
  rw [World.size_alloc] at h2
  exact h2
def MorePost (s : St) (rest b : Bs) (count : Nat) (w : World) (e : Ending) (w' : World) : Prop :=
  ∃ v, e = .returned (.tuple #[v, .int .i64 0]) ∧ HashV w' v (absorb s (rest ++ b) ((rest ++ b).length / 64)) ((rest ++ b).drop (64 * ((rest ++ b).length / 64))) (count + b.length) ∧ Below w.heap.size w w'
set_option maxRecDepth 100000 in
set_option maxHeartbeats 4000000 in
theorem hmore_any (B : Nat) (v u : Value) (s : St) (rest b : Bs) (count : Nat) (w : World) (hv : HashV w v s rest count) (hu : SeesB w B u b) (hB : B ≤ w.heap.size) (hl : count + b.length ≤ 1048576) :
    Calls Try.prog 8 #[v, u] w (MorePost s rest b count w) := by
  obtain ⟨g, A, c, rfl, hbx, hr, hlr⟩ := hv
  obtain ⟨AA, cc, rfl, -, -⟩ := hu.mk_
  have hgw := hbx.lt
  have hval : Hid (∀ W, Calls Try.prog 27 #[.agg #[.slice (some ⟨g, 0, none⟩) 8 8, .slice A rest.length c, .int .i64 (count : Int)]] W (BoolPost true W)) := fun W => by rw [hlr]; exact hvalid_any g A count c (by omega) W
  have hr64 : Hid (rest.length < 64) := by show _ < _; omega
  have m1 : IntKind.i64.wrap ((count : Int) + (b.length : Int)) = ((count + b.length : Nat) : Int) := by rw [IntKind.wrap_i64]; omega
  have hat : ∀ w, (Instr.arrayAt 60 (.slice (some ⟨g, 0, none⟩) 8 8)).run Try.prog w = .ok (.pointer (some ⟨g, 0, none⟩)) w := fun w => run_arrayAt w 60 _ 8 _ 8 8 Try.underlying60 (by omega)
  have hl2 : (count : Int) + (b.length : Int) ≤ 1048576 := by omega
  replace hbx := Lib.hid hbx
  replace hr := Lib.hid hr
  replace hu := Lib.hid hu
  replace hlr := Lib.hid hlr
  replace hl := Lib.hid hl
  go_enter Try.func8, Try.ntmps8
  go_wp2_with (simp only [hat])
  have hb0 : Below w.heap.size w ((w.alloc (.cells #[.slice (some ⟨g, 0, none⟩) 8 8, .slice A rest.length c, .int .i64 (count : Int)] 28)).alloc (.cells #[.slice none 0 0, .slice none 0 0, .int .i64 0] 28)) := bgo (balloc w _) (balloc _ _)
  have hx1 := Box.below (Box.new w 28 [.slice (some ⟨g, 0, none⟩) 8 8, .slice A rest.length c, .int .i64 (count : Int)]) (balloc _ (.cells #[.slice none 0 0, .slice none 0 0, .int .i64 0] 28))
  have hx2 := Box.new (w.alloc (.cells #[.slice (some ⟨g, 0, none⟩) 8 8, .slice A rest.length c, .int .i64 (count : Int)] 28)) 28 [.slice none 0 0, .slice none 0 0, .int .i64 0]
  rw [World.size_alloc] at hx2
  change Box ((w.alloc (.cells #[.slice (some ⟨g, 0, none⟩) 8 8, .slice A rest.length c, .int .i64 (count : Int)] 28)).alloc (.cells #[.slice none 0 0, .slice none 0 0, .int .i64 0] 28)) _ _ _ at hx1 hx2
  generalize (w.alloc (.cells #[.slice (some ⟨g, 0, none⟩) 8 8, .slice A rest.length c, .int .i64 (count : Int)] 28)).alloc (.cells #[.slice none 0 0, .slice none 0 0, .int .i64 0] 28) = W0 at *
  obtain ⟨p, hp⟩ : ∃ p, p = w.heap.size := ⟨_, rfl⟩
  rw [← hp] at hx1 hx2 ⊢
  replace hp := Lib.hid hp
  refine (hval.out W0).mono ?_
  rintro e W1 ⟨rfl, hb1⟩
  replace hx1 := hx1.below hb1
  replace hx2 := hx2.below hb1
  replace hb1 := bgo hb0 hb1
  have hg1 := hbx.out.below hb1
  clear hb0
  obtain ⟨c0, c1, c2, -⟩ := box3_cells hx1
  have g0 : W1.cell? ⟨g, 0, none⟩ = some (.int .u32 (s.a.toNat : Int)) := hg1.cell 0
  have g1 : W1.cell? ⟨g, 1, none⟩ = some (.int .u32 (s.b.toNat : Int)) := hg1.cell 1
  have g2 : W1.cell? ⟨g, 2, none⟩ = some (.int .u32 (s.c.toNat : Int)) := hg1.cell 2
  have g3 : W1.cell? ⟨g, 3, none⟩ = some (.int .u32 (s.d.toNat : Int)) := hg1.cell 3
  have g4 : W1.cell? ⟨g, 4, none⟩ = some (.int .u32 (s.e.toNat : Int)) := hg1.cell 4
  have g5 : W1.cell? ⟨g, 5, none⟩ = some (.int .u32 (s.f.toNat : Int)) := hg1.cell 5
  have g6 : W1.cell? ⟨g, 6, none⟩ = some (.int .u32 (s.g.toNat : Int)) := hg1.cell 6
  have g7 : W1.cell? ⟨g, 7, none⟩ = some (.int .u32 (s.h.toNat : Int)) := hg1.cell 7
  have hl1 := hx2.lt
  have hl0 := hx1.lt
  replace hx1 := Lib.hid hx1
  replace hx2 := Lib.hid hx2
  replace hb1 := Lib.hid hb1
  replace hg1 := Lib.hid hg1
  dsimp only
  go_wp2_with (simp only [hat])
  have hb2 := balloc W1 (.cells (stCells s).toArray 60)
  have hgh := Box.new W1 60 (stCells s)
  have hs2 : (W1.alloc (.cells (stCells s).toArray 60)).heap.size = W1.heap.size + 1 := World.size_alloc _ _
  replace hx1 := Lib.hid (hx1.out.below hb2)
  replace hx2 := Lib.hid (hx2.out.below hb2)
  have hb2w := bgo hb1.out hb2
  have hwg : w.heap.size ≤ W1.heap.size := hb1.out.size
  change Calls _ _ _ ((W1.alloc (.cells (stCells s).toArray 60)).alloc _) _
  clear c0 c1 c2 g0 g1 g2 g3 g4 g5 g6 g7 hg1 hb1 hb2
  generalize hgG : W1.heap.size = G at *
  clear hgG
  generalize W1.alloc (.cells (stCells s).toArray 60) = W2 at *
  have hfl : [rest, b].flatten = rest ++ b := by simp
  have hc := concat_lit0 (vs := [.slice A rest.length c, .slice AA b.length cc]) [rest, b] W2 ⟨seesB_of hr.out (Nat.le_refl _) hb2w, seesB_of (hu.out.more hB) (Nat.le_refl _) hb2w, trivial⟩ (by simp) (by rw [hfl, List.length_append]; have := hr64.out; have := hl.out; omega)
  rw [hfl, hs2] at hc
  have hLl : (rest ++ b).length = rest.length + b.length := List.length_append
  generalize hL : rest ++ b = L at *
  replace hL := Lib.hid hL
  replace hLl := Lib.hid hLl
  replace hc := Lib.hid hc
  replace hs2 := Lib.hid hs2
  replace hb2w := Lib.hid hb2w
  refine hc.out.mono ?_
  rintro e W3 ⟨v3, rfl, h3, hb3⟩
  replace hgh := hgh.below (by rw [hs2.out]; exact hb3)
  replace hx1 := hx1.out.below (by rw [hs2.out]; exact hb3)
  replace hx2 := hx2.out.below (by rw [hs2.out]; exact hb3)
  have hb3w := bgo hb2w.out (by rw [hs2.out]; exact hb3)
  obtain ⟨A3, c3, rfl, -, -⟩ := h3.sees.mk_
  have hview : ∀ w', W3.grownBy w' (some G) → SeesB w' W3.heap.size (.slice A3 L.length c3) L := fun w' hg => h3.sees.stay fun _ k hk q hq => by
    have hk2 := h3.lt k hk
    exact World.cell?_of_block (hg.block q.block (by rw [hq]; exact hk2.2) (fun e => by injection e with e; omega))
  have hwh := whole_any G 60 s W3.heap.size _ L W3 (stCells_row hgh) (Nat.le_refl _) hview
  replace hwh := Lib.hid hwh
  replace hb3w := Lib.hid hb3w
  replace hx1 := Lib.hid hx1
  replace hx2 := Lib.hid hx2
  clear hc hview
  replace h3 := Lib.hid h3
  replace hgh := Lib.hid hgh
  replace hb3 := Lib.hid hb3
  dsimp only
  go_wp2_with fail
  refine hwh.out.mono ?_
  rintro e W4 ⟨v4, rfl, h4, hr4, hg4⟩
  have hpG : p + 1 < G := hl1
  have hb4 := hb3w.out.grown hg4 hb3w.out.size (fun k hk => by injection hk with hk; omega)
  have hb34 := hg4.size
  replace hx1 : Box W4 p 28 _ := (hg4.block p (by have := hb3.out.size; have := hs2.out; omega) (fun e => by injection e with e; omega)).trans hx1.out
  replace hx2 : Box W4 (p + 1) 28 _ := (hg4.block (p + 1) (by have := hb3.out.size; have := hs2.out; omega) (fun e => by injection e with e; omega)).trans hx2.out
  have hgh4 := box_of_row hr4
  have hlen : Hid ((L.drop (64 * (L.length / 64))).length = (count + b.length) % 64) := by
    show _ = _
    have := hlr.out
    have := hLl.out
    rw [List.length_drop]
    omega
  generalize hSe : absorb s L (L.length / 64) = s4 at hgh4
  generalize hRe : L.drop (64 * (L.length / 64)) = r4 at h4 hlen
  replace hSe := Lib.hid hSe
  replace hRe := Lib.hid hRe
  clear hr4 hg4 hwh hb3w h3 hgh hb3
  obtain ⟨A4, c4, rfl, -, -⟩ := h4.mk_
  have h4' := h4.more (B' := W4.heap.size) hb34
  have hr4l : r4.length < 64 := by rw [hlen.out]; omega
  have hcl := Lib.hid (fun W (hW : Below W4.heap.size W4 W) => clone_any W.heap.size _ r4 W (seesB_of h4' (Nat.le_refl _) hW) (Nat.le_refl _) (by omega))
  have hGl := hgh4.lt
  have K : Hid (∀ W : World, Below W4.heap.size W4 W → W.cell? ⟨p, 2, none⟩ = some (.int .i64 (count : Int))) := fun W hW => (hx1.below hW).cell 2
  have K3 : Hid (∀ (W : World) (a b d : Value), Below W4.heap.size W4 W → (((W.setCell ⟨p + 1, 0, none⟩ a).setCell ⟨p + 1, 1, none⟩ b).setCell ⟨p + 1, 2, none⟩ d).cell? ⟨p, 2, none⟩ = some (.int .i64 (count : Int))) :=
    fun W a b d hW => (cell_set3 W _ _ (by dsimp only; omega) a b d).trans (K.out W hW)
  have y2 := K.out W4 (Below.refl _ _)
  have Z : Hid (∀ W : World, Below W4.heap.size W4 W → Box W (p + 1) 28 [.slice none 0 0, .slice none 0 0, .int .i64 0]) := fun W hW => hx2.below hW
  have hl2 := hx2.lt
  replace hb4 := Lib.hid hb4
  replace hgh4 := Lib.hid hgh4
  clear hx1 hx2 h4 h4' hr4l
  dsimp only
  go_wp2_with fail
  go_region_held3 (fun W' : World => W'.cell? ⟨p, 2, none⟩ = some (.int .i64 (count : Int)))
    (first | exact K.out _ hb5 | exact K3.out _ _ _ _ hb5 | (go_keep; done))
    ((go_at_call 30; refine (hcl.out W4.drew (bdrew W4)).mono ?_; rintro e W5 ⟨v5, rfl, h5, hb5⟩
      obtain ⟨A5, c5, rfl, -, -⟩ := h5.sees.mk_
      replace hb5 := (bdrew W4).trans hb5
      obtain ⟨z0, z1, z2, f0, f1, f2⟩ := box3_cells (Z.out W5 hb5)))
  all_goals
    have h5o : OwnB W5 W4.heap.size (.slice A5 r4.length c5) r4 := h5
    have k5 : OwnB (((W5.setCell ⟨p + 1, 0, none⟩ (.slice (some ⟨G, 0, none⟩) 8 8)).setCell ⟨p + 1, 1, none⟩ (.slice A5 r4.length c5)).setCell ⟨p + 1, 2, none⟩ (.int .i64 ((count : Int) + (b.length : Int)))) W4.heap.size (.slice A5 r4.length c5) r4 :=
      ownsRow_setCell_below (ownsRow_setCell_below (ownsRow_setCell_below h5o (by dsimp only; exact hl2) _) (by dsimp only; exact hl2) _) (by dsimp only; exact hl2) _
    have kg := (((hgh4.out.below hb5).other (j := 0) (v := .slice (some ⟨G, 0, none⟩) 8 8) (show G ≠ p + 1 by omega)).other (j := 1) (v := .slice A5 r4.length c5) (show G ≠ p + 1 by omega)).other (j := 2) (v := .int .i64 ((count : Int) + (b.length : Int))) (show G ≠ p + 1 by omega)
    have kz := (((Z.out W5 hb5).set 0 (.slice (some ⟨G, 0, none⟩) 8 8)).set 1 (.slice A5 r4.length c5)).set 2 (.int .i64 ((count : Int) + (b.length : Int)))
    simp only [List.set_cons_succ, List.set_cons_zero] at kz
    have hgw : w.heap.size ≤ p + 1 := by have := hp.out; omega
    have hend := (((bgo hb4.out hb5).setCell (p := ⟨p + 1, 0, none⟩) hgw (.slice (some ⟨G, 0, none⟩) 8 8)).setCell (p := ⟨p + 1, 1, none⟩) hgw (.slice A5 r4.length c5)).setCell (p := ⟨p + 1, 2, none⟩) hgw (.int .i64 ((count : Int) + (b.length : Int)))
    clear h5 h5o z0 z1 z2 f0 f1 f2 hb5 K K3 Z hgh4 hb4
    generalize ((W5.setCell ⟨p + 1, 0, none⟩ (.slice (some ⟨G, 0, none⟩) 8 8)).setCell ⟨p + 1, 1, none⟩ (.slice A5 r4.length c5)).setCell ⟨p + 1, 2, none⟩ (.int .i64 ((count : Int) + (b.length : Int))) = W6 at *
    obtain ⟨z0, z1, z2, -⟩ := box3_cells kz
    go_wp2_with fail
    refine bodyPost_ret (v := .tuple #[.agg #[.slice (some ⟨G, 0, none⟩) 8 8, .slice A5 r4.length c5, .int .i64 ((count : Int) + (b.length : Int))], .int .i64 0]) (by simp [results, Try.results8, go_sem, z0, z1, z2]) rfl ?_
    refine ⟨_, rfl, ?_, hend⟩
    rw [hL.out, hSe.out, hRe.out]
    exact ⟨G, A5, c5, by rw [Int.natCast_add], kg, k5.sees, hlen.out⟩
set_option maxRecDepth 100000 in
set_option maxHeartbeats 4000000 in
theorem hend_any (v : Value) (s : St) (rest : Bs) (count : Nat) (w : World) (hv : HashV w v s rest count) (hl : count ≤ 1048576) :
    Calls Try.prog 10 #[v] w fun e w' => ∃ v', e = .returned (.tuple #[v', .int .i64 0]) ∧ OwnB w' w.heap.size v' (finish s rest count) ∧ Below w.heap.size w w' := by
  obtain ⟨g, A, c, rfl, hbx, hr, hlr⟩ := hv
  have hgw := hbx.lt
  have hval : Hid (∀ W, Calls Try.prog 27 #[.agg #[.slice (some ⟨g, 0, none⟩) 8 8, .slice A rest.length c, .int .i64 (count : Int)]] W (BoolPost true W)) := fun W => by rw [hlr]; exact hvalid_any g A count c (by omega) W
  have hr64 : Hid (rest.length < 64) := by show _ < _; omega
  have hat : ∀ w, (Instr.arrayAt 60 (.slice (some ⟨g, 0, none⟩) 8 8)).run Try.prog w = .ok (.pointer (some ⟨g, 0, none⟩)) w := fun w => run_arrayAt w 60 _ 8 _ 8 8 Try.underlying60 (by omega)
  replace hbx := Lib.hid hbx
  replace hr := Lib.hid hr
  replace hlr := Lib.hid hlr
  replace hl := Lib.hid hl
  go_enter Try.func10, Try.ntmps10
  go_wp2_with (simp only [hat])
  have hb0 : Below w.heap.size w (w.alloc (.cells #[.slice (some ⟨g, 0, none⟩) 8 8, .slice A rest.length c, .int .i64 (count : Int)] 28)) := balloc w _
  have hx1 := Box.new w 28 [.slice (some ⟨g, 0, none⟩) 8 8, .slice A rest.length c, .int .i64 (count : Int)]
  change Box (w.alloc (.cells #[.slice (some ⟨g, 0, none⟩) 8 8, .slice A rest.length c, .int .i64 (count : Int)] 28)) _ _ _ at hx1
  have y0 := hx1.cell 0
  have y1 := hx1.cell 1
  have y2 := hx1.cell 2
  simp only [List.getElem?_cons_zero, List.getElem?_cons_succ] at y0 y1 y2
  generalize w.alloc (.cells #[.slice (some ⟨g, 0, none⟩) 8 8, .slice A rest.length c, .int .i64 (count : Int)] 28) = W0 at *
  obtain ⟨p, hp⟩ : ∃ p, p = w.heap.size := ⟨_, rfl⟩
  rw [← hp] at hx1 y0 y1 y2 ⊢
  replace hp := Lib.hid hp
  refine (hval.out W0).mono ?_
  rintro e W1 ⟨rfl, hb1⟩
  replace hx1 := hx1.below hb1
  replace hb1 := bgo hb0 hb1
  have hg1 := hbx.out.below hb1
  have hr1 := seesB_of hr.out (Nat.le_refl _) hb1
  clear hb0 y0 y1 y2
  obtain ⟨c0, c1, c2, -⟩ := box3_cells hx1
  have g0 : W1.cell? ⟨g, 0, none⟩ = some (.int .u32 (s.a.toNat : Int)) := hg1.cell 0
  have g1 : W1.cell? ⟨g, 1, none⟩ = some (.int .u32 (s.b.toNat : Int)) := hg1.cell 1
  have g2 : W1.cell? ⟨g, 2, none⟩ = some (.int .u32 (s.c.toNat : Int)) := hg1.cell 2
  have g3 : W1.cell? ⟨g, 3, none⟩ = some (.int .u32 (s.d.toNat : Int)) := hg1.cell 3
  have g4 : W1.cell? ⟨g, 4, none⟩ = some (.int .u32 (s.e.toNat : Int)) := hg1.cell 4
  have g5 : W1.cell? ⟨g, 5, none⟩ = some (.int .u32 (s.f.toNat : Int)) := hg1.cell 5
  have g6 : W1.cell? ⟨g, 6, none⟩ = some (.int .u32 (s.g.toNat : Int)) := hg1.cell 6
  have g7 : W1.cell? ⟨g, 7, none⟩ = some (.int .u32 (s.h.toNat : Int)) := hg1.cell 7
  have hf := finish_any s W1.drew.heap.size (.slice A rest.length c) rest count W1.drew hr1 (Nat.le_refl _) hr64.out (by have := hl.out; omega)
  unfold wdV at hf
  replace hf := Lib.hid hf
  replace hb1 := Lib.hid hb1
  have K : Hid (∀ W' : World, Below W1.heap.size W1 W' → W'.cell? ⟨p, 0, none⟩ = some (.slice (some ⟨g, 0, none⟩) 8 8) ∧ W'.cell? ⟨p, 1, none⟩ = some (.slice A rest.length c) ∧ W'.cell? ⟨p, 2, none⟩ = some (.int .i64 (count : Int)) ∧ W'.cell? ⟨g, 0, none⟩ = some (.int .u32 (s.a.toNat : Int)) ∧ W'.cell? ⟨g, 1, none⟩ = some (.int .u32 (s.b.toNat : Int)) ∧ W'.cell? ⟨g, 2, none⟩ = some (.int .u32 (s.c.toNat : Int)) ∧ W'.cell? ⟨g, 3, none⟩ = some (.int .u32 (s.d.toNat : Int)) ∧ W'.cell? ⟨g, 4, none⟩ = some (.int .u32 (s.e.toNat : Int)) ∧ W'.cell? ⟨g, 5, none⟩ = some (.int .u32 (s.f.toNat : Int)) ∧ W'.cell? ⟨g, 6, none⟩ = some (.int .u32 (s.g.toNat : Int)) ∧ W'.cell? ⟨g, 7, none⟩ = some (.int .u32 (s.h.toNat : Int))) := fun W' hW => ⟨(hx1.below hW).cell 0, (hx1.below hW).cell 1, (hx1.below hW).cell 2, (hg1.below hW).cell 0, (hg1.below hW).cell 1, (hg1.below hW).cell 2, (hg1.below hW).cell 3, (hg1.below hW).cell 4, (hg1.below hW).cell 5, (hg1.below hW).cell 6, (hg1.below hW).cell 7⟩
  clear hx1 hg1 hr1
  dsimp only
  go_wp2_with fail
  go_region_held3 (fun W' : World => W'.cell? ⟨p, 0, none⟩ = some (.slice (some ⟨g, 0, none⟩) 8 8) ∧ W'.cell? ⟨p, 1, none⟩ = some (.slice A rest.length c) ∧ W'.cell? ⟨p, 2, none⟩ = some (.int .i64 (count : Int)) ∧ W'.cell? ⟨g, 0, none⟩ = some (.int .u32 (s.a.toNat : Int)) ∧ W'.cell? ⟨g, 1, none⟩ = some (.int .u32 (s.b.toNat : Int)) ∧ W'.cell? ⟨g, 2, none⟩ = some (.int .u32 (s.c.toNat : Int)) ∧ W'.cell? ⟨g, 3, none⟩ = some (.int .u32 (s.d.toNat : Int)) ∧ W'.cell? ⟨g, 4, none⟩ = some (.int .u32 (s.e.toNat : Int)) ∧ W'.cell? ⟨g, 5, none⟩ = some (.int .u32 (s.f.toNat : Int)) ∧ W'.cell? ⟨g, 6, none⟩ = some (.int .u32 (s.g.toNat : Int)) ∧ W'.cell? ⟨g, 7, none⟩ = some (.int .u32 (s.h.toNat : Int)))
    (first | exact K.out _ hb5 | (go_keep; done))
    ((go_at_call 32; refine hf.out.mono ?_; rintro e W5 ⟨v5, rfl, h5, hb5⟩; replace hb5 := (bdrew W1).trans hb5))
  all_goals
    go_wp2_with fail
    refine bodyPost_ret (v := .tuple #[v5, .int .i64 0]) (by simp [results, Try.results10, go_sem]) rfl ?_
    exact ⟨v5, rfl, h5.mono (show w.heap.size ≤ W1.drew.heap.size from hb1.out.size), bgo hb1.out hb5⟩
end Go.Proofs.Ytpdphpekgphniaa

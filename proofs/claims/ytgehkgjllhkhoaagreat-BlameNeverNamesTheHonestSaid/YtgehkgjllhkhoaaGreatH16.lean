/- What the laws of chains lean on: contracts of the program and of the reference, and plain functions. Conditions: those of each theorem. -/
import Derived.Test.YtgehkgjllhkhoaaGreatH14
namespace Go.Proofs.YtgehkgjllhkhoaaGreat
open Go.RowKit
set_option linter.unusedVariables false
set_option linter.unusedSimpArgs false
attribute [local go_sem ↓] Go.wp_at_zero Go.wp_at_succ
set_option maxRecDepth 100000 in
theorem collect_after (A : Option Addr) (c : Nat) (l : Bs) (N B : Nat) (w : World) (hu : SeesB w B (.slice A l.length c) l) (hB : B ≤ w.heap.size) (hl : l.length = 32 * N) (hN : N ≤ 64) (hc : l.length ≤ c) (W' : World) (n0 n1 : Nat) (hW' : Below w.heap.size w W') (h0 : n0 < W'.heap.size) (h1 : n1 < W'.heap.size)
 (c0 : W'.cell? ⟨n0, 0, none⟩ = some (.slice A l.length c)) (c1 : W'.cell? ⟨n1, 0, none⟩ = some (.int .i64 32)) :
 Calls Tryz.prog 145 #[.func (.func 206) #[] #[.pointer (some ⟨n0, 0, none⟩), .pointer (some ⟨n1, 0, none⟩)]] W' fun e W'' => ∃ v, e = .returned v ∧ OwnL W'' W'.heap.size v (cutL 32 N l) ∧ Below W'.heap.size W' W'' := by
 have hA : ∃ b o, 0 < N → A = some ⟨b, o, none⟩ := by
  rcases Nat.eq_zero_or_pos N with h0 | h0
  · exact ⟨0, 0, fun h => by omega⟩
  · obtain ⟨b, o, e, -⟩ := hu.at_ (by omega)
    exact ⟨b, o, fun _ => e⟩
 obtain ⟨b, o, hA⟩ := hA
 refine (collect_any n0 n1 b o c 32 N A hA (by omega) (by omega) hN (by omega) W' h0 h1 (by rw [← hl]; exact c0) c1).mono ?_
 rintro e W2 ⟨v, rfl, h1, h2⟩
 have hb2 := bgo hW' h2
 have hu2 := hu.below (hb2.mono hB)
 refine ⟨v, rfl, ⟨(List.range N).map (chunkV b o 32), ?_, fun k hk => ?_⟩, h2⟩
 · rw [cutL_len]
   rw [List.length_range] at h1
   exact h1
 · rw [cutL_len] at hk
   have hm : 32 * k + 32 ≤ l.length := by omega
   obtain rfl := hA (by omega)
   refine ⟨chunkV b o 32 k, by rw [List.getElem?_map, List.getElem?_range hk]; rfl, ?_⟩
   rw [cutL_get _ _ _ _ hk]
   exact Elt.of_old (chunk_sees hu2 hm (by omega)) (Nat.le_trans hB hb2.size) (fun j hj => by have := (h1.lt j hj).1; have := hW'.size; omega)
theorem chunk_boxes (w : World) (x : Value) : ∀ W', Below ((w.alloc (.cells #[x] 34)).alloc (.cells #[.int .i64 32] 3)).heap.size ((w.alloc (.cells #[x] 34)).alloc (.cells #[.int .i64 32] 3)) W' →
 w.heap.size < W'.heap.size ∧ w.heap.size + 1 < W'.heap.size ∧ W'.cell? ⟨w.heap.size, 0, none⟩ = some x ∧ W'.cell? ⟨w.heap.size + 1, 0, none⟩ = some (.int .i64 32) := by
 intro W' hW'
 have hx1 := Box.below (Box.new w 34 [x]) (balloc _ (.cells #[.int .i64 32] 3))
 have hx2 := Box.new (w.alloc (.cells #[x] 34)) 3 [.int .i64 32]
 have hz : (w.alloc (.cells #[x] 34)).heap.size = w.heap.size + 1 := World.size_alloc _ _
 rw [hz] at hx2
 replace hx1 := hx1.below hW'
 replace hx2 := hx2.below hW'
 exact ⟨hx1.lt, hx2.lt, hx1.cell 0, hx2.cell 0⟩
theorem noB8 (a b : Int) (u v x y : Value) (hu : NoB u) (hv : NoB v) (hx : NoB x) (hy : NoB y) (c d : Int) : NoByte [.int .i64 a, .int .i64 b, u, v, x, y, .int .i64 c, .int .i64 d] :=
 noBL8 (NoB.i _) (NoB.i _) hu hv hx hy (NoB.i _) (NoB.i _)
theorem SeesL.over {w w' : World} {B g : Nat} {T : TypeId} {u : Value} {ls : List Bs} {xs : List Value} (h : SeesL w B u ls) (hB : B ≤ w.heap.size) (hu : ∀ k, u.ownBlock = some k → k ≠ g) (hbx : Box w g T xs) (hno : NoByte xs) (hg : w.grownBy w' (some g)) : SeesL w' B u ls := by
 obtain ⟨vs, ⟨h0, A, c, hv, h1, h2, h3⟩, hel⟩ := h
 refine ⟨vs, ⟨h0, A, c, hv, h1, h2, fun hn => ?_⟩, fun k hk => ?_⟩
 · obtain ⟨b, o, e, hb, hc⟩ := h3 hn
   refine ⟨b, o, e, hb, fun j x hj => (World.cell?_of_block (hg.block b (by omega) (fun e2 => ?_))).trans (hc j x hj)⟩
   injection e2 with e2
   exact hu b (by rw [hv, e]; rfl) e2
 · obtain ⟨v, g1, g2⟩ := hel k hk
   exact ⟨v, g1, g2.over hB hbx hno hg⟩
theorem grown_set8 (w : World) (g : Nat) (x0 x1 x2 x3 x4 x5 x6 x7 : Value) : w.grownBy ((((((((w.setCell ⟨g, 0, none⟩ x0).setCell ⟨g, 1, none⟩ x1).setCell ⟨g, 2, none⟩ x2).setCell ⟨g, 3, none⟩ x3).setCell ⟨g, 4, none⟩ x4).setCell ⟨g, 5, none⟩ x5).setCell ⟨g, 6, none⟩ x6).setCell ⟨g, 7, none⟩ x7) (some g) :=
 ggo (ggo (ggo (ggo (ggo (ggo (ggo (setCell_grown w g 0 x0) (setCell_grown _ g 1 x1)) (setCell_grown _ g 2 x2)) (setCell_grown _ g 3 x3)) (setCell_grown _ g 4 x4)) (setCell_grown _ g 5 x5)) (setCell_grown _ g 6 x6)) (setCell_grown _ g 7 x7)
theorem Box.apart {w w' : World} {g k : Nat} {T : TypeId} {xs : List Value} (h : Box w k T xs) (hg : w.grownBy w' (some g)) (hne : k ≠ g) : Box w' k T xs :=
 (hg.block k h.lt (fun e => by injection e with e; exact hne e)).trans h
def AnsZ (g : Nat) (w : World) : Prop := Box w g 129 [.int .i64 0, .int .i64 0, .slice none 0 0, .slice none 0 0, .slice none 0 0, .slice none 0 0, .int .i64 0, .int .i64 0]
def R7 (w3 : World) (ix nx : Int) (pt : Value) (ls : List Bs) (v : Value) (W : World) : Prop :=
 ∃ g A c, v = .pointer (some ⟨g, 0, none⟩) ∧ w3.heap.size ≤ g ∧ AnsAt W g ix nx (.slice A ls.length c) (.slice none 0 0) pt (.slice none 0 0) 0 0 ∧
  SeesL W W.heap.size (.slice A ls.length c) ls ∧ (∀ k, (Value.slice A ls.length c).ownBlock = some k → w3.heap.size ≤ k ∧ k ≠ g) ∧ Below w3.heap.size w3 W
theorem r7_set (w3 w5 : World) (ix nx : Int) (A A' : Option Addr) (n' c' c g base : Nat) (ls : List Bs) (hbx : AnsZ g w5) (ho : OwnL w5 base (.slice A ls.length c) ls) (hG : g < base) (h3 : w3.heap.size ≤ g) (hb : Below w3.heap.size w3 w5) :
 R7 w3 ix nx (.slice A' n' c') ls (.pointer (some ⟨g, 0, none⟩)) ((((((((w5.setCell ⟨g, 0, none⟩ (.int .i64 ix)).setCell ⟨g, 1, none⟩ (.int .i64 nx)).setCell ⟨g, 2, none⟩ (.slice A ls.length c)).setCell ⟨g, 3, none⟩ (.slice none 0 0)).setCell ⟨g, 4, none⟩ (.slice A' n' c')).setCell ⟨g, 5, none⟩ (.slice none 0 0)).setCell ⟨g, 6, none⟩ (.int .i64 0)).setCell ⟨g, 7, none⟩ (.int .i64 0)) := by
 have h8 := box_set8 hbx (.int .i64 ix) (.int .i64 nx) (.slice A ls.length c) (.slice none 0 0) (.slice A' n' c') (.slice none 0 0) (.int .i64 0) (.int .i64 0)
 have hk := OwnL.poke8 ho hG hbx (NoB.i _) (NoB.i _) (NoB.s _ _ _) (NoB.s _ _ _) (NoB.s _ _ _) (NoB.s _ _ _) (NoB.i _) (NoB.i _) (.int .i64 ix) (.int .i64 nx) (.slice A ls.length c) (.slice none 0 0) (.slice A' n' c') (.slice none 0 0) (.int .i64 0) (.int .i64 0) (NoB.i _) (NoB.i _) (NoB.s _ _ _) (NoB.s _ _ _) (NoB.s _ _ _) (NoB.s _ _ _) (NoB.i _)
 exact ⟨g, A, c, rfl, h3, h8, hk.sees, fun k hk' => by have := (hk.lt k hk').1; omega, below_set8 hb h3 _ _ _ _ _ _ _ _⟩
theorem r7_new (w3 w5 : World) (ix nx : Int) (A A' : Option Addr) (n' c' c base : Nat) (ls : List Bs) (ho : OwnL w5 base (.slice A ls.length c) ls) (h3 : w3.heap.size ≤ base) (hb : Below w3.heap.size w3 w5) :
 R7 w3 ix nx (.slice A' n' c') ls (.pointer (some ⟨w5.heap.size, 0, none⟩)) (w5.alloc (.cells #[.int .i64 ix, .int .i64 nx, .slice A ls.length c, .slice none 0 0, .slice A' n' c', .slice none 0 0, .int .i64 0, .int .i64 0] 129)) :=
 ⟨w5.heap.size, A, c, rfl, hb.size, Box.new w5 129 [.int .i64 ix, .int .i64 nx, .slice A ls.length c, .slice none 0 0, .slice A' n' c', .slice none 0 0, .int .i64 0, .int .i64 0], (ho.below (balloc w5 _)).sees, fun k hk => by have := ho.lt k hk; omega, bgo hb (balloc _ _)⟩
def CollAt (w3 W : World) (x : Value) (n0 n1 : Nat) : Prop := Below w3.heap.size w3 W ∧ n0 < W.heap.size ∧ n1 < W.heap.size ∧ W.cell? ⟨n0, 0, none⟩ = some x ∧ W.cell? ⟨n1, 0, none⟩ = some (.int .i64 32)
theorem coll_c (w3 : World) (x : Value) : CollAt w3 ((w3.alloc (.cells #[x] 34)).alloc (.cells #[.int .i64 32] 3)).drew x w3.heap.size (w3.heap.size + 1) := by
 obtain ⟨h1, h2, h3, h4⟩ := chunk_boxes w3 x _ (bdrew _)
 exact ⟨bgo (bgo (balloc _ _) (balloc _ _)) (bdrew _), h1, h2, h3, h4⟩
theorem coll_b (w3 : World) (x : Value) (o : Obj) : CollAt w3 (((w3.alloc (.cells #[x] 34)).alloc (.cells #[.int .i64 32] 3)).alloc o).drew x w3.heap.size (w3.heap.size + 1) := by
 obtain ⟨h1, h2, h3, h4⟩ := chunk_boxes w3 x _ (bgo (balloc _ o) (bdrew _))
 exact ⟨bgo (bgo (bgo (balloc _ _) (balloc _ _)) (balloc _ _)) (bdrew _), h1, h2, h3, h4⟩
theorem coll_a (w3 : World) (x : Value) (o : Obj) : CollAt w3 (((w3.alloc o).alloc (.cells #[x] 34)).alloc (.cells #[.int .i64 32] 3)).drew x (w3.heap.size + 1) (w3.heap.size + 1 + 1) := by
 obtain ⟨h1, h2, h3, h4⟩ := chunk_boxes (w3.alloc o) x _ (bdrew _)
 rw [World.size_alloc] at h1 h2 h3 h4
 exact ⟨bgo (bgo (bgo (balloc _ _) (balloc _ _)) (balloc _ _)) (bdrew _), h1, h2, h3, h4⟩
def CollP (w3 : World) (W : World) (ls : List Bs) (e : Ending) (w' : World) : Prop := ∃ A c, e = .returned (.slice A ls.length c) ∧ OwnL w' W.heap.size (.slice A ls.length c) ls ∧ Below w3.heap.size w3 w' ∧ Below W.heap.size W w'
theorem ansZ_cells {g : Nat} {w : World} (h : AnsZ g w) : (w.cell? ⟨g, 0, none⟩ = some (.int .i64 0) ∧ w.cell? ⟨g, 1, none⟩ = some (.int .i64 0) ∧ w.cell? ⟨g, 2, none⟩ = some (.slice none 0 0) ∧ w.cell? ⟨g, 3, none⟩ = some (.slice none 0 0) ∧ w.cell? ⟨g, 4, none⟩ = some (.slice none 0 0) ∧ w.cell? ⟨g, 5, none⟩ = some (.slice none 0 0) ∧ w.cell? ⟨g, 6, none⟩ = some (.int .i64 0) ∧ w.cell? ⟨g, 7, none⟩ = some (.int .i64 0)) ∧
 w.frozen? ⟨g, 0, none⟩ = false ∧ w.frozen? ⟨g, 1, none⟩ = false ∧ w.frozen? ⟨g, 2, none⟩ = false ∧ w.frozen? ⟨g, 3, none⟩ = false ∧ w.frozen? ⟨g, 4, none⟩ = false ∧ w.frozen? ⟨g, 5, none⟩ = false ∧ w.frozen? ⟨g, 6, none⟩ = false ∧ w.frozen? ⟨g, 7, none⟩ = false :=
 ⟨⟨h.cell 0, h.cell 1, h.cell 2, h.cell 3, h.cell 4, h.cell 5, h.cell 6, h.cell 7⟩, h.frozen 0, h.frozen 1, h.frozen 2, h.frozen 3, h.frozen 4, h.frozen 5, h.frozen 6, h.frozen 7⟩
theorem ansZ_a (w3 : World) (x y : Obj) : ∀ W', Below (((w3.alloc (.cells #[.int .i64 0, .int .i64 0, .slice none 0 0, .slice none 0 0, .slice none 0 0, .slice none 0 0, .int .i64 0, .int .i64 0] 129)).alloc x).alloc y).drew.heap.size (((w3.alloc (.cells #[.int .i64 0, .int .i64 0, .slice none 0 0, .slice none 0 0, .slice none 0 0, .slice none 0 0, .int .i64 0, .int .i64 0] 129)).alloc x).alloc y).drew W' → AnsZ w3.heap.size W' := fun W' hW' =>
 Box.below (Box.new w3 129 [.int .i64 0, .int .i64 0, .slice none 0 0, .slice none 0 0, .slice none 0 0, .slice none 0 0, .int .i64 0, .int .i64 0]) (bgo (bgo (bgo (balloc _ _) (balloc _ _)) (bdrew _)) hW')
theorem ansZ_b (w3 : World) (x y : Obj) : ∀ W', Below (((w3.alloc x).alloc y).alloc (.cells #[.int .i64 0, .int .i64 0, .slice none 0 0, .slice none 0 0, .slice none 0 0, .slice none 0 0, .int .i64 0, .int .i64 0] 129)).drew.heap.size (((w3.alloc x).alloc y).alloc (.cells #[.int .i64 0, .int .i64 0, .slice none 0 0, .slice none 0 0, .slice none 0 0, .slice none 0 0, .int .i64 0, .int .i64 0] 129)).drew W' → AnsZ (w3.heap.size + 1 + 1) W' := fun W' hW' => by
 have h9 := Box.new ((w3.alloc x).alloc y) 129 [.int .i64 0, .int .i64 0, .slice none 0 0, .slice none 0 0, .slice none 0 0, .slice none 0 0, .int .i64 0, .int .i64 0]
 rw [show ((w3.alloc x).alloc y).heap.size = w3.heap.size + 1 + 1 by rw [World.size_alloc, World.size_alloc]] at h9
 exact Box.below h9 (bgo (bdrew _) hW')
def parseOk (b : Bs) : Bool :=
 decide ((decT b).map (·.1) = names5) && decide ((datN b 0).length = 4) && decide ((datN b 1).length = 4) && decide ((datN b 2).length % 32 = 0) && (unpadG (datN b 3)).isSome && contOk (datN b 4)
def parseC (b : Bs) : Int := if decC b = 0 then (if parseOk b = true then 0 else 3) else decC b
def zeroA : Value := .agg #[.int .i64 0, .int .i64 0, .slice none 0 0, .slice none 0 0, .slice none 0 0, .slice none 0 0, .int .i64 0, .int .i64 0]
def ParseBP (b : Bs) (w : World) (e : Ending) (w' : World) : Prop :=
 (parseC b ≠ 0 ∧ e = .returned (.tuple #[zeroA, .int .i64 (parseC b)]) ∧ Below w.heap.size w w') ∨
 (parseC b = 0 ∧ ∃ pa si pt ro, e = .returned (.tuple #[.agg #[.int .i64 (getB (datN b 0) : Int), .int .i64 (getB (datN b 1) : Int), pa, si, pt, ro, .int .i64 (unLo (datN (datN b 4) 1)), .int .i64 (unHi (datN (datN b 4) 1))], .int .i64 0]) ∧
  SeesL w' w'.heap.size pa (cutL 32 ((datN b 2).length / 32) (datN b 2)) ∧ (∃ s, unpadG (datN b 3) = some s ∧ SeesB w' w'.heap.size si s) ∧ SeesB w' w'.heap.size pt (datN b 4) ∧ SeesB w' w'.heap.size ro (datN (datN b 4) 0) ∧ Below w.heap.size w w')
theorem unpad_both' {x : Bs} {f : FuncId} {args : Array Value} {w : World} (h : Calls Tryz.prog f args w (UnpadP (unpadG x) w)) : Calls Tryz.prog f args w fun e w' => ∃ A' n' c', e = .returned (.tuple #[.slice A' n' c', .bool (unpadG x).isSome]) ∧ Below w.heap.size w w' ∧ (∀ s, unpadG x = some s → SeesB w' w'.heap.size (.slice A' n' c') s) := by
 refine h.mono ?_
 intro e w' hP
 cases hx : unpadG x with
 | none =>
   rw [hx] at hP
   obtain ⟨A, n, c, rfl, hb⟩ := hP
   exact ⟨A, n, c, rfl, hb, fun s h => by cases h⟩
 | some s =>
   rw [hx] at hP
   obtain ⟨v, rfl, h1, hb⟩ := hP
   obtain ⟨A, c, rfl, -, -⟩ := h1.mk_
   exact ⟨A, _, c, rfl, hb, fun s' h => by cases h; exact h1⟩
set_option maxRecDepth 100000 in
set_option maxHeartbeats 16000000 in
theorem bparse_any (B : Nat) (u : Value) (b : Bs) (w : World) (hu : SeesB w B u b) (hB : B ≤ w.heap.size) (hl : b.length ≤ 1048576) :
 Calls Tryz.prog 81 #[u] w (ParseBP b w) := by
 obtain ⟨A, c, rfl, -, -⟩ := hu.mk_
 have hb0 := balloc w (.cells #[.int .i64 0, .int .i64 0, .slice none 0 0, .slice none 0 0, .slice none 0 0, .slice none 0 0, .int .i64 0, .int .i64 0] 129)
 have hx := Box.new w 129 [.int .i64 0, .int .i64 0, .slice none 0 0, .slice none 0 0, .slice none 0 0, .slice none 0 0, .int .i64 0, .int .i64 0]
 change Box (w.alloc (.cells #[.int .i64 0, .int .i64 0, .slice none 0 0, .slice none 0 0, .slice none 0 0, .slice none 0 0, .int .i64 0, .int .i64 0] 129)) _ _ _ at hx
 have hdec := decode_any B _ b _ (hu.below (hb0.mono hB)) (Nat.le_trans hB hb0.size) hl
 unfold DecP at hdec
 replace hdec := Lib.hid hdec
 go_enter Tryz.func81, Tryz.ntmps81
 go_wp2_with fail
 refine hdec.out.mono ?_
 rintro e w1 ⟨v1, rfl, s1, hb1⟩
 replace hx := hx.below hb1
 replace hb1 := bgo hb0 hb1
 clear hdec hb0
 generalize hg2 : w.heap.size = g2 at hx ⊢
 have hgw : Hid (w.heap.size ≤ g2) := by show _ ≤ _; omega
 replace hg2 := Lib.hid hg2
 replace hb1 := Lib.hid hb1
 have y0 := hx.cell 0
 have y1 := hx.cell 1
 have y2 := hx.cell 2
 have y3 := hx.cell 3
 have y4 := hx.cell 4
 have y5 := hx.cell 5
 have y6 := hx.cell 6
 have y7 := hx.cell 7
 simp only [List.getElem?_cons_zero, List.getElem?_cons_succ] at y0 y1 y2 y3 y4 y5 y6 y7
 have f0 := hx.frozen 0
 have f1 := hx.frozen 1
 have f2 := hx.frozen 2
 have f3 := hx.frozen 3
 have f4 := hx.frozen 4
 have f5 := hx.frozen 5
 have f6 := hx.frozen 6
 have f7 := hx.frozen 7
 dsimp only
 by_cases E0 : decC b = 0
 · rw [E0]
   replace E0 := Lib.hid E0
   have hpo : Hid (parseOk b = (decide ((decT b).map (·.1) = names5) && decide ((datN b 0).length = 4) && decide ((datN b 1).length = 4) && decide ((datN b 2).length % 32 = 0) && (unpadG (datN b 3)).isSome && contOk (datN b 4))) := rfl
   clear y0 y1 y2 y3 y4 y5 y6 y7 f0 f1 f2 f3 f4 f5 f6 f7
   go_wp2_with fail
   refine (names_any w1).mono ?_
   rintro e w2 ⟨v2, rfl, s2, hb2⟩
   have hpt := parts2_any w2.heap.size w2.heap.size v1 v2 (decT b) names5 w2 ((s1.below hb2).more hb2.size) s2 (Nat.le_refl _) (Nat.le_refl _) (Nat.le_trans (decT_len b) (by omega))
   unfold PartsP at hpt
   replace hx := hx.below hb2
   replace hb1 := Lib.hid (bgo hb1.out hb2)
   replace hpt := Lib.hid hpt
   clear s1 s2 hb2
   dsimp only
   go_wp2_with fail
   refine hpt.out.mono ?_
   rintro e w3 hP
   rcases hP with ⟨hnm, v3, rfl, ho, hb3⟩ | ⟨hnm, rfl, hb3⟩
   · replace hx := hx.below hb3
     replace hb1 := Lib.hid (bgo hb1.out hb3)
     have hL5 : ((decT b).map (·.2)).length = 5 := by
      have := congrArg List.length hnm
      simpa [names5] using this
     have hdat : ∀ k, ((decT b).map (·.2)).getD k [] = datN b k := fun k => by
      unfold datN
      rw [List.getD_eq_getElem?_getD, List.getD_eq_getElem?_getD, List.getElem?_map]
      cases (decT b)[k]? <;> rfl
     have hsl := ho.sees
     obtain ⟨A3, c3, rfl, -, -⟩ := hsl.mk_
     obtain ⟨b6, o6, rfl, hb6, hcell⟩ := hsl.at_ (by omega)
     obtain ⟨A10, c10, t0, -, -, sd0⟩ := hcell 0 (by omega)
     obtain ⟨A11, c11, t1, -, -, sd1⟩ := hcell 1 (by omega)
     obtain ⟨A12, c12, t2, -, -, sd2⟩ := hcell 2 (by omega)
     obtain ⟨A13, c13, t3, -, -, sd3⟩ := hcell 3 (by omega)
     obtain ⟨A14, c14, t4, -, -, sd4⟩ := hcell 4 (by omega)
     rw [hdat 0] at t0 sd0
     rw [hdat 1] at t1 sd1
     rw [hdat 2] at t2 sd2
     rw [hdat 3] at t3 sd3
     rw [hdat 4] at t4 sd4
     replace t0 : w3.cell? ⟨b6, o6, none⟩ = some (.slice A10 (datN b 0).length c10) := t0
     have hdl := fun k => Nat.le_trans (datN_len b k) hl
     have hdl2 := datN_len b 2
     rw [hL5]
     clear hcell hsl hdat hL5 hpt
     replace hnm := Lib.hid hnm
     by_cases m0 : (datN b 0).length = 4
     · by_cases m1 : (datN b 1).length = 4
       · by_cases m2 : (datN b 2).length % 32 = 0
         · have i0 : ((datN b 0).length : Int) = 4 := by omega
           have i1 : ((datN b 1).length : Int) = 4 := by omega
           have i2 : ((datN b 2).length : Int) % 32 = 0 := by omega
           have hgN : (datN b 2).length = 32 * ((datN b 2).length / 32) := by omega
           have hc12 : (datN b 2).length ≤ c12 := by
            obtain ⟨A', c', e, h9, -⟩ := sd2.mk_
            cases e
            exact h9
           have hb48 : b.length ≤ 2048 := by
            by_cases h9 : 2048 < b.length
            · have := dec_long b h9
              rw [E0.out] at this
              omega
            · omega
           have hcol : Hid (∀ (n0 n1 : Nat) (W : World), CollAt w3 W (.slice A12 (datN b 2).length c12) n0 n1 → Calls Tryz.prog 145 #[.func (.func 206) #[] #[.pointer (some ⟨n0, 0, none⟩), .pointer (some ⟨n1, 0, none⟩)]] W (CollP w3 W (cutL 32 ((datN b 2).length / 32) (datN b 2)))) := fun n0 n1 W h => by
            obtain ⟨h1, h2, h3, h4, h5⟩ := h
            refine (collect_after A12 c12 (datN b 2) ((datN b 2).length / 32) w3.heap.size w3 sd2 (Nat.le_refl _) hgN (by omega) hc12 W n0 n1 h1 h2 h3 h4 h5).mono ?_
            rintro e w5 ⟨pa, rfl, q1, q2⟩
            obtain ⟨A5, c5, rfl⟩ := q1.shape
            exact ⟨A5, c5, rfl, q1, bgo h1 q2, q2⟩
           have hA := hcol.out _ _ _ (coll_a w3 (.slice A12 (datN b 2).length c12) (.cells #[.int .i64 0, .int .i64 0, .slice none 0 0, .slice none 0 0, .slice none 0 0, .slice none 0 0, .int .i64 0, .int .i64 0] 129))
           have hBB := hcol.out _ _ _ (coll_b w3 (.slice A12 (datN b 2).length c12) (.cells #[.int .i64 0, .int .i64 0, .slice none 0 0, .slice none 0 0, .slice none 0 0, .slice none 0 0, .int .i64 0, .int .i64 0] 129))
           have hC := hcol.out _ _ _ (coll_c w3 (.slice A12 (datN b 2).length c12))
           replace hA := Lib.hid hA
           replace hBB := Lib.hid hBB
           replace hC := Lib.hid hC
           clear hcol
           have hck : Hid (∀ W, Calls Tryz.prog 146 #[.slice A12 (datN b 2).length c12, .int .i64 32] W fun e w' => e = .returned (.func (.func 206) #[] #[.pointer (some ⟨W.heap.size, 0, none⟩), .pointer (some ⟨W.heap.size + 1, 0, none⟩)]) ∧ w' = (W.alloc (.cells #[.slice A12 (datN b 2).length c12] 34)).alloc (.cells #[.int .i64 32] 3)) := fun W => chunk_any A12 (datN b 2).length c12 32 (by omega) W
           have hga1 := Lib.hid (get_any _ _ (datN b 0) w3.drew (sd0.below (bdrew w3)))
           have hgb1 := Lib.hid (get_any _ _ (datN b 1) w3.drew (sd1.below (bdrew w3)))
           have hga2 := Lib.hid (get_any _ _ (datN b 0) (w3.alloc (.cells #[.int .i64 0, .int .i64 0, .slice none 0 0, .slice none 0 0, .slice none 0 0, .slice none 0 0, .int .i64 0, .int .i64 0] 129)).drew (sd0.below (bgo (balloc w3 _) (bdrew _))))
           have hgb2 := Lib.hid (get_any _ _ (datN b 1) (w3.alloc (.cells #[.int .i64 0, .int .i64 0, .slice none 0 0, .slice none 0 0, .slice none 0 0, .slice none 0 0, .int .i64 0, .int .i64 0] 129)).drew (sd1.below (bgo (balloc w3 _) (bdrew _))))
           have n0 := getB_lt4 (datN b 0) m0
           have n1 := getB_lt4 (datN b 1) m1
           have iw0 : IntKind.i64.wrap (getB (datN b 0) : Int) = (getB (datN b 0) : Int) := by rw [IntKind.wrap_i64]; omega
           have iw1 : IntKind.i64.wrap (getB (datN b 1) : Int) = (getB (datN b 1) : Int) := by rw [IntKind.wrap_i64]; omega
           have K : Hid (∀ W' : World, Below w3.heap.size w3 W' → W'.cell? ⟨b6, o6, none⟩ = some (.slice A10 (datN b 0).length c10) ∧ W'.cell? ⟨b6, o6 + 1, none⟩ = some (.slice A11 (datN b 1).length c11) ∧ W'.cell? ⟨b6, o6 + 2, none⟩ = some (.slice A12 (datN b 2).length c12) ∧ W'.cell? ⟨b6, o6 + 4, none⟩ = some (.slice A14 (datN b 4).length c14)) := fun W' hW' =>
            ⟨(hW'.cell (p := ⟨b6, o6, none⟩) hb6).trans t0, (hW'.cell (p := ⟨b6, o6 + 1, none⟩) hb6).trans t1, (hW'.cell (p := ⟨b6, o6 + 2, none⟩) hb6).trans t2, (hW'.cell (p := ⟨b6, o6 + 4, none⟩) hb6).trans t4⟩
           have hdd : ∀ k, Hid ((datN b k).length ≤ 1048576) := hdl
           replace m0 := Lib.hid m0
           replace m1 := Lib.hid m1
           replace m2 := Lib.hid m2
           replace hgN := Lib.hid hgN
           replace hpo := Lib.hid hpo
           replace hx := Lib.hid hx
           clear hdl hdl2 hb3
           generalize hq0 : datN b 0 = d0 at *
           generalize hq1 : datN b 1 = d1 at *
           generalize hq2 : datN b 2 = d2 at *
           generalize hq3 : datN b 3 = d3 at *
           generalize hq4 : datN b 4 = d4 at *
           generalize hix : getB d0 = ix at *
           generalize hnx : getB d1 = nx at *
           replace hix := Lib.hid hix
           replace hnx := Lib.hid hnx
           generalize hls : cutL 32 (d2.length / 32) d2 = ls at *
           replace hls := Lib.hid hls
           go_wp2_with fail
           have hle2 : w3.heap.size ≤ w3.heap.size + 1 + 1 := by omega
           go_cut [8] (fun v W => R7 w3 (ix : Int) (nx : Int) (.slice A14 d4.length c14) ls v W)
           case first =>
            go_region_held3 (fun W' : World => W'.cell? ⟨b6, o6, none⟩ = some (.slice A10 d0.length c10) ∧ W'.cell? ⟨b6, o6 + 1, none⟩ = some (.slice A11 d1.length c11) ∧ W'.cell? ⟨b6, o6 + 2, none⟩ = some (.slice A12 d2.length c12) ∧ W'.cell? ⟨b6, o6 + 4, none⟩ = some (.slice A14 d4.length c14))
             (first | (with_reducible exact K.out _ hbw5) | (with_reducible exact K.out _ (below_set8 hbw5 (Nat.le_refl _) _ _ _ _ _ _ _ _)) | (with_reducible exact K.out _ (below_set8 hbw5 hle2 _ _ _ _ _ _ _ _)) | exact K.out _ (by (repeat (first | exact Below.refl _ _ | (refine bgo ?_ (balloc _ _)) | (refine bgo ?_ (bdrew _)) | (refine bgo ?_ (by assumption))))) | (go_keep; done))
             (first
              | (go_at_call 145; (with_reducible refine hA.out.mono ?_); rintro e w5 ⟨A5, c5, rfl, h5, hbw5, hq5⟩
                 have hbz := ansZ_a w3 _ _ w5 hq5
                 obtain ⟨⟨e0, e1, e2, e3, e4, e5, e6, e7⟩, j0, j1, j2, j3, j4, j5, j6, j7⟩ := ansZ_cells hbz
                 replace hbz := Lib.hid hbz
                 replace h5 := Lib.hid h5
                 clear hq5)
              | (go_at_call 145; (with_reducible refine hBB.out.mono ?_); rintro e w5 ⟨A5, c5, rfl, h5, hbw5, hq5⟩
                 have hbz := ansZ_b w3 _ _ w5 hq5
                 obtain ⟨⟨e0, e1, e2, e3, e4, e5, e6, e7⟩, j0, j1, j2, j3, j4, j5, j6, j7⟩ := ansZ_cells hbz
                 replace hbz := Lib.hid hbz
                 replace h5 := Lib.hid h5
                 clear hq5)
              | (go_at_call 145; (with_reducible refine hC.out.mono ?_); rintro e w5 ⟨A5, c5, rfl, h5, hbw5, hq5⟩
                 replace h5 := Lib.hid h5
                 clear hq5)
              | (go_at_call 146; (with_reducible refine (hck.out _).mono ?_); rintro e w4 ⟨rfl, rfl⟩)
              | (go_at_call 134; (with_reducible refine hga1.out.mono ?_); rintro e w' ⟨rfl, rfl⟩)
              | (go_at_call 134; (with_reducible refine hgb1.out.mono ?_); rintro e w' ⟨rfl, rfl⟩)
              | (go_at_call 134; (with_reducible refine hga2.out.mono ?_); rintro e w' ⟨rfl, rfl⟩)
              | (go_at_call 134; (with_reducible refine hgb2.out.mono ?_); rintro e w' ⟨rfl, rfl⟩))
            all_goals
             go_wp2_with fail
             go_meet
             first
              | ((with_reducible refine r7_new w3 w5 _ _ _ _ _ _ _ _ _ h5.out ?_ hbw5); show _ ≤ ((w3.alloc _).alloc _).heap.size; simp only [World.size_alloc]; omega)
              | ((with_reducible refine r7_set w3 w5 _ _ _ _ _ _ _ _ _ _ hbz.out h5.out ?_ (Nat.le_refl _) hbw5); show _ < (((w3.alloc _).alloc _).alloc _).heap.size; simp only [World.size_alloc]; omega)
              | ((with_reducible refine r7_set w3 w5 _ _ _ _ _ _ _ _ _ _ hbz.out h5.out ?_ hle2 hbw5); show _ < (((w3.alloc _).alloc _).alloc _).heap.size; simp only [World.size_alloc]; omega)
           case rest =>
            obtain ⟨g, A5, c5, rfl, hg3, hans, hpa, hpk, hb7⟩ := hcut
            obtain ⟨W7, rfl⟩ : ∃ W : World, W = wc := ⟨_, rfl⟩
            have hg2l : g2 < w3.heap.size := hx.out.lt
            have hx7 := hx.out.below hb7
            replace hb1 := Lib.hid (bgo hb1.out hb7)
            have t3' : W7.cell? ⟨b6, o6 + 3, none⟩ = some (.slice A13 d3.length c13) := (hb7.cell (p := ⟨b6, o6 + 3, none⟩) hb6).trans t3
            have hd3l : d3.length ≤ 4096 := by have := datN_len b 3; rw [hq3] at this; omega
            have hct := Lib.hid (unpad_both' (cut_any w3.heap.size _ d3 W7 (sd3.below hb7) hb7.size hd3l))
            have hpt7 := (sd4.below hb7).more hb7.size
            have hd4l := (hdd 4).out
            rw [hq4] at hd4l
            have hpo2 : Hid (parseOk b = ((unpadG d3).isSome && contOk d4)) := by
             show _ = _
             rw [hpo.out]
             simp [hnm.out, hq0, hq1, hq2, hq3, hq4, m0.out, m1.out, m2.out]
            replace hpa := Lib.hid hpa
            replace hpk := Lib.hid hpk
            replace hx7 := Lib.hid hx7
            clear hA hBB hC hck hga1 hgb1 hga2 hgb2 iw0 iw1 K t0 t1 t2 t3 t4 sd0 sd1 sd2 sd3 sd4 i0 i1 i2 hx hpo hb7 hc12
            clear m0 m1 m2 hgN
            clear n0 n1
            have hq3' := Lib.hid hq3
            have hq4' := Lib.hid hq4
            have hq0' := Lib.hid hq0
            have hq1' := Lib.hid hq1
            have hq2' := Lib.hid hq2
            clear hq0 hq1 hq2 hq3 hq4
            unfold AnsAt at hans
            go_wp2_with fail
            refine hct.out.mono ?_
            rintro e w8 ⟨Au, nu, cu, rfl, hb8, hus⟩
            clear hct t3'
            have hans8 := hans.below hb8
            have hpt8 := (hpt7.below hb8).more hb8.size
            have hx8 := hx7.out.below hb8
            have hpa8 : SeesL w8 w8.heap.size (.slice A5 ls.length c5) ls := seesL_of hpa.out (Nat.le_refl _) hb8
            have hb18 := bgo hb1.out hb8
            have hg8 : g < w8.heap.size := hans8.lt
            have e3 := hans8.cell 3
            simp only [List.getElem?_cons_zero, List.getElem?_cons_succ] at e3
            have j3 := hans8.frozen 3
            have hno8 := noB8 (ix : Int) (nx : Int) (.slice A5 ls.length c5) (.slice none 0 0) (.slice A14 d4.length c14) (.slice none 0 0) (NoB.s _ _ _) (NoB.s _ _ _) (NoB.s _ _ _) (NoB.s _ _ _) 0 0
            have hgr9 := setCell_grown w8 g 3 (.slice Au nu cu)
            have hpt9 := hpt8.over (Nat.le_refl _) hans8 hno8 hgr9
            have hpa9 := hpa8.over (Nat.le_refl _) (fun k hk => (hpk.out k hk).2) hans8 hno8 hgr9
            have hus9 := fun s hs => (hus s hs).over (Nat.le_refl _) hans8 hno8 hgr9
            have hx9 := hx8.apart hgr9 (by omega)
            have hans9 := hans8.set 3 (.slice Au nu cu)
            simp only [List.set_cons_zero, List.set_cons_succ] at hans9
            have hs9 : (w8.setCell ⟨g, 3, none⟩ (.slice Au nu cu)).heap.size = w8.heap.size := by simp [World.setCell]
            have hb19 : Below w.heap.size w (w8.setCell ⟨g, 3, none⟩ (.slice Au nu cu)) := hb18.setCell (p := ⟨g, 3, none⟩) (by have := hgw.out; show _ ≤ g; omega) _
            rw [← hs9] at hpt9 hpa9 hus9
            replace hpt9 := Lib.hid hpt9
            replace hpa9 := Lib.hid hpa9
            replace hus9 := Lib.hid hus9
            replace hx9 := Lib.hid hx9
            replace hans9 := Lib.hid hans9
            replace hb19 := Lib.hid hb19
            clear hans hans8 hpt7 hpt8 hx7 hx8 hpa hpa8 hus hno8 hb18 hb8 hgr9 hb1 hs9
            dsimp only
            go_upto_region 9 with (fail)
            clear e3 j3
            generalize w8.setCell ⟨g, 3, none⟩ (.slice Au nu cu) = W9 at *
            rcases hU : unpadG d3 with _ | sg
            · have hpc : Hid (parseC b = 3) := by show _ = _; rw [parseC, if_pos E0.out, if_neg (by rw [hpo2.out, hU]; simp)]
              have hx10 := hx9.out
              have hbw10 := hb19
              obtain ⟨w10, rfl⟩ : ∃ w10 : World, w10 = W9 := ⟨_, rfl⟩
              simp only [Option.isSome_none]
              replace hU := Lib.hid hU
              have y0 := hx10.cell 0
              have y1 := hx10.cell 1
              have y2 := hx10.cell 2
              have y3 := hx10.cell 3
              have y4 := hx10.cell 4
              have y5 := hx10.cell 5
              have y6 := hx10.cell 6
              have y7 := hx10.cell 7
              simp only [List.getElem?_cons_zero, List.getElem?_cons_succ] at y0 y1 y2 y3 y4 y5 y6 y7
              have f0 := hx10.frozen 0
              have f1 := hx10.frozen 1
              have f2 := hx10.frozen 2
              have f3 := hx10.frozen 3
              have f4 := hx10.frozen 4
              have f5 := hx10.frozen 5
              have f6 := hx10.frozen 6
              have f7 := hx10.frozen 7
              go_wp2_with fail
              have kz := Lib.hid (box_set8 hx10 (.int .i64 0) (.int .i64 0) (.slice none 0 0) (.slice none 0 0) (.slice none 0 0) (.slice none 0 0) (.int .i64 0) (.int .i64 0))
              have kb := Lib.hid (below_set8 hbw10.out hgw.out (.int .i64 0) (.int .i64 0) (.slice none 0 0) (.slice none 0 0) (.slice none 0 0) (.slice none 0 0) (.int .i64 0) (.int .i64 0))
              clear y0 y1 y2 y3 y4 y5 y6 y7 f0 f1 f2 f3 f4 f5 f6 f7
              generalize (((((((w10.setCell ⟨g2, 0, none⟩ (.int .i64 0)).setCell ⟨g2, 1, none⟩ (.int .i64 0)).setCell ⟨g2, 2, none⟩ (.slice none 0 0)).setCell ⟨g2, 3, none⟩ (.slice none 0 0)).setCell ⟨g2, 4, none⟩ (.slice none 0 0)).setCell ⟨g2, 5, none⟩ (.slice none 0 0)).setCell ⟨g2, 6, none⟩ (.int .i64 0)).setCell ⟨g2, 7, none⟩ (.int .i64 0) = W9 at *
              have z0 : W9.cell? ⟨g2, 0, none⟩ = some (.int .i64 0) := kz.out.cell 0
              have z1 : W9.cell? ⟨g2, 1, none⟩ = some (.int .i64 0) := kz.out.cell 1
              have z2 : W9.cell? ⟨g2, 2, none⟩ = some (.slice none 0 0) := kz.out.cell 2
              have z3 : W9.cell? ⟨g2, 3, none⟩ = some (.slice none 0 0) := kz.out.cell 3
              have z4 : W9.cell? ⟨g2, 4, none⟩ = some (.slice none 0 0) := kz.out.cell 4
              have z5 : W9.cell? ⟨g2, 5, none⟩ = some (.slice none 0 0) := kz.out.cell 5
              have z6 : W9.cell? ⟨g2, 6, none⟩ = some (.int .i64 0) := kz.out.cell 6
              have z7 : W9.cell? ⟨g2, 7, none⟩ = some (.int .i64 0) := kz.out.cell 7
              refine bodyPost_ret (v := .tuple #[zeroA, .int .i64 3]) (by simp [zeroA, results, Tryz.results81, go_sem, z0, z1, z2, z3, z4, z5, z6, z7]) rfl ?_
              exact .inl ⟨by rw [hpc.out]; simp, by rw [hpc.out], kb.out⟩
            · have hssg := hus9.out sg hU
              have hcn := content_any d4 g (ix : Int) (nx : Int) (.slice A5 ls.length c5) (.slice Au nu cu) (.slice A14 d4.length c14) (.slice none 0 0) 0 0 W9 hans9.out hpt9.out hd4l (NoB.s _ _ _) (NoB.s _ _ _) (NoB.s _ _ _) rfl rfl rfl
              have hpo3 : Hid (parseOk b = contOk d4) := by show _ = _; rw [hpo2.out, hU]; simp
              replace hcn := Lib.hid hcn
              replace hU := Lib.hid hU
              replace hssg := Lib.hid hssg
              simp only [Option.isSome_some]
              go_wp2_with fail
              refine hcn.out.mono ?_
              rintro e w10 ⟨rfl, hg10, hc10⟩
              clear hcn
              have hno9 := noB8 (ix : Int) (nx : Int) (.slice A5 ls.length c5) (.slice Au nu cu) (.slice A14 d4.length c14) (.slice none 0 0) (NoB.s _ _ _) (NoB.s _ _ _) (NoB.s _ _ _) (NoB.s _ _ _) 0 0
              have hx10 := hx9.out.apart hg10 (by omega)
              have hb310 : Below w3.heap.size W9 w10 := below_over hg10 hg3 (by have := hans9.out.lt; omega)
              have hbw10 := Lib.hid (hb19.out.trans (hb310.mono (by have := hgw.out; have := hg2.out; omega)))
              have hpt10 := (hpt9.out.over (Nat.le_refl _) hans9.out hno9 hg10).more hg10.size
              have hsi10 := (hssg.out.over (Nat.le_refl _) hans9.out hno9 hg10).more hg10.size
              have hpa10 := SeesL.more (hpa9.out.over (Nat.le_refl _) (fun k hk => (hpk.out k hk).2) hans9.out hno9 hg10) hg10.size
              clear hpt9 hssg hpa9 hans9 hno9 hx9 hb19 hus9 hb310 hg10
              dsimp only
              cases hok : contOk d4 with
              | false =>
                have hpc : Hid (parseC b = 3) := by show _ = _; rw [parseC, if_pos E0.out, if_neg (by rw [hpo3.out, hok]; simp)]
                replace hok := Lib.hid hok
                clear hc10 hpt10 hsi10 hpa10
                have y0 := hx10.cell 0
                have y1 := hx10.cell 1
                have y2 := hx10.cell 2
                have y3 := hx10.cell 3
                have y4 := hx10.cell 4
                have y5 := hx10.cell 5
                have y6 := hx10.cell 6
                have y7 := hx10.cell 7
                simp only [List.getElem?_cons_zero, List.getElem?_cons_succ] at y0 y1 y2 y3 y4 y5 y6 y7
                have f0 := hx10.frozen 0
                have f1 := hx10.frozen 1
                have f2 := hx10.frozen 2
                have f3 := hx10.frozen 3
                have f4 := hx10.frozen 4
                have f5 := hx10.frozen 5
                have f6 := hx10.frozen 6
                have f7 := hx10.frozen 7
                go_wp2_with fail
                have kz := Lib.hid (box_set8 hx10 (.int .i64 0) (.int .i64 0) (.slice none 0 0) (.slice none 0 0) (.slice none 0 0) (.slice none 0 0) (.int .i64 0) (.int .i64 0))
                have kb := Lib.hid (below_set8 hbw10.out hgw.out (.int .i64 0) (.int .i64 0) (.slice none 0 0) (.slice none 0 0) (.slice none 0 0) (.slice none 0 0) (.int .i64 0) (.int .i64 0))
                clear y0 y1 y2 y3 y4 y5 y6 y7 f0 f1 f2 f3 f4 f5 f6 f7
                generalize (((((((w10.setCell ⟨g2, 0, none⟩ (.int .i64 0)).setCell ⟨g2, 1, none⟩ (.int .i64 0)).setCell ⟨g2, 2, none⟩ (.slice none 0 0)).setCell ⟨g2, 3, none⟩ (.slice none 0 0)).setCell ⟨g2, 4, none⟩ (.slice none 0 0)).setCell ⟨g2, 5, none⟩ (.slice none 0 0)).setCell ⟨g2, 6, none⟩ (.int .i64 0)).setCell ⟨g2, 7, none⟩ (.int .i64 0) = W9 at *
                have z0 : W9.cell? ⟨g2, 0, none⟩ = some (.int .i64 0) := kz.out.cell 0
                have z1 : W9.cell? ⟨g2, 1, none⟩ = some (.int .i64 0) := kz.out.cell 1
                have z2 : W9.cell? ⟨g2, 2, none⟩ = some (.slice none 0 0) := kz.out.cell 2
                have z3 : W9.cell? ⟨g2, 3, none⟩ = some (.slice none 0 0) := kz.out.cell 3
                have z4 : W9.cell? ⟨g2, 4, none⟩ = some (.slice none 0 0) := kz.out.cell 4
                have z5 : W9.cell? ⟨g2, 5, none⟩ = some (.slice none 0 0) := kz.out.cell 5
                have z6 : W9.cell? ⟨g2, 6, none⟩ = some (.int .i64 0) := kz.out.cell 6
                have z7 : W9.cell? ⟨g2, 7, none⟩ = some (.int .i64 0) := kz.out.cell 7
                refine bodyPost_ret (v := .tuple #[zeroA, .int .i64 3]) (by simp [zeroA, results, Tryz.results81, go_sem, z0, z1, z2, z3, z4, z5, z6, z7]) rfl ?_
                exact .inl ⟨by rw [hpc.out]; simp, by rw [hpc.out], kb.out⟩
              | true =>
                have hpc : Hid (parseC b = 0) := by show _ = _; rw [parseC, if_pos E0.out, if_pos (by rw [hpo3.out, hok])]
                obtain ⟨ro, hans10, hro10⟩ := hc10 hok
                unfold AnsAt at hans10
                obtain ⟨A15, c15, rfl, -, -⟩ := hro10.mk_
                replace hok := Lib.hid hok
                clear hc10
                have x0 := hans10.cell 0
                have x1 := hans10.cell 1
                have x2 := hans10.cell 2
                have x3 := hans10.cell 3
                have x4 := hans10.cell 4
                have x5 := hans10.cell 5
                have x6 := hans10.cell 6
                have x7 := hans10.cell 7
                simp only [List.getElem?_cons_zero, List.getElem?_cons_succ] at x0 x1 x2 x3 x4 x5 x6 x7
                replace hpk : ∀ k, (Value.slice A5 ls.length c5).ownBlock = some k → w3.heap.size ≤ k := fun k hk => (hpk.out k hk).1
                replace hpk := Lib.hid hpk
                have hlo : Hid (unLo (datN d4 1) = unLo (datN d4 1)) := rfl
                generalize hro : datN d4 0 = r0 at *
                generalize hlo1 : unLo (datN d4 1) = lo at *
                generalize hhi1 : unHi (datN d4 1) = hi at *
                replace hro := Lib.hid hro
                replace hlo1 := Lib.hid hlo1
                replace hhi1 := Lib.hid hhi1
                clear hlo hans10
                replace hpa10 := Lib.hid hpa10
                replace hpt10 := Lib.hid hpt10
                replace hsi10 := Lib.hid hsi10
                replace hro10 := Lib.hid hro10
                have y0 := hx10.cell 0
                have y1 := hx10.cell 1
                have y2 := hx10.cell 2
                have y3 := hx10.cell 3
                have y4 := hx10.cell 4
                have y5 := hx10.cell 5
                have y6 := hx10.cell 6
                have y7 := hx10.cell 7
                simp only [List.getElem?_cons_zero, List.getElem?_cons_succ] at y0 y1 y2 y3 y4 y5 y6 y7
                have f0 := hx10.frozen 0
                have f1 := hx10.frozen 1
                have f2 := hx10.frozen 2
                have f3 := hx10.frozen 3
                have f4 := hx10.frozen 4
                have f5 := hx10.frozen 5
                have f6 := hx10.frozen 6
                have f7 := hx10.frozen 7
                go_wp2_with fail
                have kz := Lib.hid (box_set8 hx10 (.int .i64 (ix : Int)) (.int .i64 (nx : Int)) (.slice A5 ls.length c5) (.slice Au nu cu) (.slice A14 d4.length c14) (.slice A15 r0.length c15) (.int .i64 lo) (.int .i64 hi))
                have kb := Lib.hid (below_set8 hbw10.out hgw.out (.int .i64 (ix : Int)) (.int .i64 (nx : Int)) (.slice A5 ls.length c5) (.slice Au nu cu) (.slice A14 d4.length c14) (.slice A15 r0.length c15) (.int .i64 lo) (.int .i64 hi))
                have kpa := Lib.hid (SeesL.over hpa10.out (Nat.le_refl _) (fun k hk => by have := hpk.out k hk; have := hg2l; omega) hx10 (noB8 _ _ _ _ _ _ (NoB.s _ _ _) (NoB.s _ _ _) (NoB.s _ _ _) (NoB.s _ _ _) _ _) (grown_set8 w10 g2 (.int .i64 (ix : Int)) (.int .i64 (nx : Int)) (.slice A5 ls.length c5) (.slice Au nu cu) (.slice A14 d4.length c14) (.slice A15 r0.length c15) (.int .i64 lo) (.int .i64 hi)))
                have ksi := Lib.hid (SeesB.over hsi10.out (Nat.le_refl _) hx10 (noB8 _ _ _ _ _ _ (NoB.s _ _ _) (NoB.s _ _ _) (NoB.s _ _ _) (NoB.s _ _ _) _ _) (grown_set8 w10 g2 (.int .i64 (ix : Int)) (.int .i64 (nx : Int)) (.slice A5 ls.length c5) (.slice Au nu cu) (.slice A14 d4.length c14) (.slice A15 r0.length c15) (.int .i64 lo) (.int .i64 hi)))
                have kpt := Lib.hid (SeesB.over hpt10.out (Nat.le_refl _) hx10 (noB8 _ _ _ _ _ _ (NoB.s _ _ _) (NoB.s _ _ _) (NoB.s _ _ _) (NoB.s _ _ _) _ _) (grown_set8 w10 g2 (.int .i64 (ix : Int)) (.int .i64 (nx : Int)) (.slice A5 ls.length c5) (.slice Au nu cu) (.slice A14 d4.length c14) (.slice A15 r0.length c15) (.int .i64 lo) (.int .i64 hi)))
                have kro := Lib.hid (SeesB.over hro10.out (Nat.le_refl _) hx10 (noB8 _ _ _ _ _ _ (NoB.s _ _ _) (NoB.s _ _ _) (NoB.s _ _ _) (NoB.s _ _ _) _ _) (grown_set8 w10 g2 (.int .i64 (ix : Int)) (.int .i64 (nx : Int)) (.slice A5 ls.length c5) (.slice Au nu cu) (.slice A14 d4.length c14) (.slice A15 r0.length c15) (.int .i64 lo) (.int .i64 hi)))
                have hsz := Lib.hid (size_set8 w10 g2 (.int .i64 (ix : Int)) (.int .i64 (nx : Int)) (.slice A5 ls.length c5) (.slice Au nu cu) (.slice A14 d4.length c14) (.slice A15 r0.length c15) (.int .i64 lo) (.int .i64 hi))
                clear x0 x1 x2 x3 x4 x5 x6 x7 y0 y1 y2 y3 y4 y5 y6 y7 f0 f1 f2 f3 f4 f5 f6 f7
                generalize (((((((w10.setCell ⟨g2, 0, none⟩ (.int .i64 (ix : Int))).setCell ⟨g2, 1, none⟩ (.int .i64 (nx : Int))).setCell ⟨g2, 2, none⟩ (.slice A5 ls.length c5)).setCell ⟨g2, 3, none⟩ (.slice Au nu cu)).setCell ⟨g2, 4, none⟩ (.slice A14 d4.length c14)).setCell ⟨g2, 5, none⟩ (.slice A15 r0.length c15)).setCell ⟨g2, 6, none⟩ (.int .i64 lo)).setCell ⟨g2, 7, none⟩ (.int .i64 hi) = W9 at *
                have z0 : W9.cell? ⟨g2, 0, none⟩ = some (.int .i64 (ix : Int)) := kz.out.cell 0
                have z1 : W9.cell? ⟨g2, 1, none⟩ = some (.int .i64 (nx : Int)) := kz.out.cell 1
                have z2 : W9.cell? ⟨g2, 2, none⟩ = some (.slice A5 ls.length c5) := kz.out.cell 2
                have z3 : W9.cell? ⟨g2, 3, none⟩ = some (.slice Au nu cu) := kz.out.cell 3
                have z4 : W9.cell? ⟨g2, 4, none⟩ = some (.slice A14 d4.length c14) := kz.out.cell 4
                have z5 : W9.cell? ⟨g2, 5, none⟩ = some (.slice A15 r0.length c15) := kz.out.cell 5
                have z6 : W9.cell? ⟨g2, 6, none⟩ = some (.int .i64 lo) := kz.out.cell 6
                have z7 : W9.cell? ⟨g2, 7, none⟩ = some (.int .i64 hi) := kz.out.cell 7
                refine bodyPost_ret (v := .tuple #[.agg #[.int .i64 (ix : Int), .int .i64 (nx : Int), .slice A5 ls.length c5, .slice Au nu cu, .slice A14 d4.length c14, .slice A15 r0.length c15, .int .i64 lo, .int .i64 hi], .int .i64 0]) (by simp [zeroA, results, Tryz.results81, go_sem, z0, z1, z2, z3, z4, z5, z6, z7]) rfl ?_
                refine .inr ⟨hpc.out, .slice A5 ls.length c5, .slice Au nu cu, .slice A14 d4.length c14, .slice A15 r0.length c15, ?_, ?_, ⟨sg, ?_, ?_⟩, ?_, ?_, kb.out⟩
                · rw [hq4'.out, hq0'.out, hq1'.out, hlo1.out, hhi1.out, hix.out, hnx.out]
                · rw [hq2'.out, hls.out, hsz.out]; exact kpa.out
                · rw [hq3'.out]; exact hU.out
                · rw [hsz.out]; exact ksi.out
                · rw [hq4'.out, hsz.out]; exact kpt.out
                · rw [hq4'.out, hro.out, hsz.out]; exact kro.out
         · have i0 : ((datN b 0).length : Int) = 4 := by omega
           have i1 : ((datN b 1).length : Int) = 4 := by omega
           have i2 : ¬ ((datN b 2).length : Int) % 32 = 0 := by omega
           have hpc : Hid (parseC b = 3) := by show _ = _; rw [parseC, if_pos E0.out, if_neg (by rw [hpo.out]; simp [m2])]
           have y0 := hx.cell 0
           have y1 := hx.cell 1
           have y2 := hx.cell 2
           have y3 := hx.cell 3
           have y4 := hx.cell 4
           have y5 := hx.cell 5
           have y6 := hx.cell 6
           have y7 := hx.cell 7
           simp only [List.getElem?_cons_zero, List.getElem?_cons_succ] at y0 y1 y2 y3 y4 y5 y6 y7
           have f0 := hx.frozen 0
           have f1 := hx.frozen 1
           have f2 := hx.frozen 2
           have f3 := hx.frozen 3
           have f4 := hx.frozen 4
           have f5 := hx.frozen 5
           have f6 := hx.frozen 6
           have f7 := hx.frozen 7
           go_wp2_with fail
           have kz := Lib.hid (box_set8 hx (.int .i64 0) (.int .i64 0) (.slice none 0 0) (.slice none 0 0) (.slice none 0 0) (.slice none 0 0) (.int .i64 0) (.int .i64 0))
           have kb := Lib.hid (below_set8 hb1.out hgw.out (.int .i64 0) (.int .i64 0) (.slice none 0 0) (.slice none 0 0) (.slice none 0 0) (.slice none 0 0) (.int .i64 0) (.int .i64 0))
           clear y0 y1 y2 y3 y4 y5 y6 y7 f0 f1 f2 f3 f4 f5 f6 f7
           generalize (((((((w3.setCell ⟨g2, 0, none⟩ (.int .i64 0)).setCell ⟨g2, 1, none⟩ (.int .i64 0)).setCell ⟨g2, 2, none⟩ (.slice none 0 0)).setCell ⟨g2, 3, none⟩ (.slice none 0 0)).setCell ⟨g2, 4, none⟩ (.slice none 0 0)).setCell ⟨g2, 5, none⟩ (.slice none 0 0)).setCell ⟨g2, 6, none⟩ (.int .i64 0)).setCell ⟨g2, 7, none⟩ (.int .i64 0) = W9 at *
           have z0 : W9.cell? ⟨g2, 0, none⟩ = some (.int .i64 0) := kz.out.cell 0
           have z1 : W9.cell? ⟨g2, 1, none⟩ = some (.int .i64 0) := kz.out.cell 1
           have z2 : W9.cell? ⟨g2, 2, none⟩ = some (.slice none 0 0) := kz.out.cell 2
           have z3 : W9.cell? ⟨g2, 3, none⟩ = some (.slice none 0 0) := kz.out.cell 3
           have z4 : W9.cell? ⟨g2, 4, none⟩ = some (.slice none 0 0) := kz.out.cell 4
           have z5 : W9.cell? ⟨g2, 5, none⟩ = some (.slice none 0 0) := kz.out.cell 5
           have z6 : W9.cell? ⟨g2, 6, none⟩ = some (.int .i64 0) := kz.out.cell 6
           have z7 : W9.cell? ⟨g2, 7, none⟩ = some (.int .i64 0) := kz.out.cell 7
           refine bodyPost_ret (v := .tuple #[zeroA, .int .i64 3]) (by simp [zeroA, results, Tryz.results81, go_sem, z0, z1, z2, z3, z4, z5, z6, z7]) rfl ?_
           exact .inl ⟨by rw [hpc.out]; simp, by rw [hpc.out], kb.out⟩
       · have i0 : ((datN b 0).length : Int) = 4 := by omega
         have i1 : ¬ ((datN b 1).length : Int) = 4 := by omega
         have hpc : Hid (parseC b = 3) := by show _ = _; rw [parseC, if_pos E0.out, if_neg (by rw [hpo.out]; simp [m1])]
         have y0 := hx.cell 0
         have y1 := hx.cell 1
         have y2 := hx.cell 2
         have y3 := hx.cell 3
         have y4 := hx.cell 4
         have y5 := hx.cell 5
         have y6 := hx.cell 6
         have y7 := hx.cell 7
         simp only [List.getElem?_cons_zero, List.getElem?_cons_succ] at y0 y1 y2 y3 y4 y5 y6 y7
         have f0 := hx.frozen 0
         have f1 := hx.frozen 1
         have f2 := hx.frozen 2
         have f3 := hx.frozen 3
         have f4 := hx.frozen 4
         have f5 := hx.frozen 5
         have f6 := hx.frozen 6
         have f7 := hx.frozen 7
         go_wp2_with fail
         have kz := Lib.hid (box_set8 hx (.int .i64 0) (.int .i64 0) (.slice none 0 0) (.slice none 0 0) (.slice none 0 0) (.slice none 0 0) (.int .i64 0) (.int .i64 0))
         have kb := Lib.hid (below_set8 hb1.out hgw.out (.int .i64 0) (.int .i64 0) (.slice none 0 0) (.slice none 0 0) (.slice none 0 0) (.slice none 0 0) (.int .i64 0) (.int .i64 0))
         clear y0 y1 y2 y3 y4 y5 y6 y7 f0 f1 f2 f3 f4 f5 f6 f7
         generalize (((((((w3.setCell ⟨g2, 0, none⟩ (.int .i64 0)).setCell ⟨g2, 1, none⟩ (.int .i64 0)).setCell ⟨g2, 2, none⟩ (.slice none 0 0)).setCell ⟨g2, 3, none⟩ (.slice none 0 0)).setCell ⟨g2, 4, none⟩ (.slice none 0 0)).setCell ⟨g2, 5, none⟩ (.slice none 0 0)).setCell ⟨g2, 6, none⟩ (.int .i64 0)).setCell ⟨g2, 7, none⟩ (.int .i64 0) = W9 at *
         have z0 : W9.cell? ⟨g2, 0, none⟩ = some (.int .i64 0) := kz.out.cell 0
         have z1 : W9.cell? ⟨g2, 1, none⟩ = some (.int .i64 0) := kz.out.cell 1
         have z2 : W9.cell? ⟨g2, 2, none⟩ = some (.slice none 0 0) := kz.out.cell 2
         have z3 : W9.cell? ⟨g2, 3, none⟩ = some (.slice none 0 0) := kz.out.cell 3
         have z4 : W9.cell? ⟨g2, 4, none⟩ = some (.slice none 0 0) := kz.out.cell 4
         have z5 : W9.cell? ⟨g2, 5, none⟩ = some (.slice none 0 0) := kz.out.cell 5
         have z6 : W9.cell? ⟨g2, 6, none⟩ = some (.int .i64 0) := kz.out.cell 6
         have z7 : W9.cell? ⟨g2, 7, none⟩ = some (.int .i64 0) := kz.out.cell 7
         refine bodyPost_ret (v := .tuple #[zeroA, .int .i64 3]) (by simp [zeroA, results, Tryz.results81, go_sem, z0, z1, z2, z3, z4, z5, z6, z7]) rfl ?_
         exact .inl ⟨by rw [hpc.out]; simp, by rw [hpc.out], kb.out⟩
     · have i0 : ¬ ((datN b 0).length : Int) = 4 := by omega
       have hpc : Hid (parseC b = 3) := by show _ = _; rw [parseC, if_pos E0.out, if_neg (by rw [hpo.out]; simp [m0])]
       have y0 := hx.cell 0
       have y1 := hx.cell 1
       have y2 := hx.cell 2
       have y3 := hx.cell 3
       have y4 := hx.cell 4
       have y5 := hx.cell 5
       have y6 := hx.cell 6
       have y7 := hx.cell 7
       simp only [List.getElem?_cons_zero, List.getElem?_cons_succ] at y0 y1 y2 y3 y4 y5 y6 y7
       have f0 := hx.frozen 0
       have f1 := hx.frozen 1
       have f2 := hx.frozen 2
       have f3 := hx.frozen 3
       have f4 := hx.frozen 4
       have f5 := hx.frozen 5
       have f6 := hx.frozen 6
       have f7 := hx.frozen 7
       go_wp2_with fail
       have kz := Lib.hid (box_set8 hx (.int .i64 0) (.int .i64 0) (.slice none 0 0) (.slice none 0 0) (.slice none 0 0) (.slice none 0 0) (.int .i64 0) (.int .i64 0))
       have kb := Lib.hid (below_set8 hb1.out hgw.out (.int .i64 0) (.int .i64 0) (.slice none 0 0) (.slice none 0 0) (.slice none 0 0) (.slice none 0 0) (.int .i64 0) (.int .i64 0))
       clear y0 y1 y2 y3 y4 y5 y6 y7 f0 f1 f2 f3 f4 f5 f6 f7
       generalize (((((((w3.setCell ⟨g2, 0, none⟩ (.int .i64 0)).setCell ⟨g2, 1, none⟩ (.int .i64 0)).setCell ⟨g2, 2, none⟩ (.slice none 0 0)).setCell ⟨g2, 3, none⟩ (.slice none 0 0)).setCell ⟨g2, 4, none⟩ (.slice none 0 0)).setCell ⟨g2, 5, none⟩ (.slice none 0 0)).setCell ⟨g2, 6, none⟩ (.int .i64 0)).setCell ⟨g2, 7, none⟩ (.int .i64 0) = W9 at *
       have z0 : W9.cell? ⟨g2, 0, none⟩ = some (.int .i64 0) := kz.out.cell 0
       have z1 : W9.cell? ⟨g2, 1, none⟩ = some (.int .i64 0) := kz.out.cell 1
       have z2 : W9.cell? ⟨g2, 2, none⟩ = some (.slice none 0 0) := kz.out.cell 2
       have z3 : W9.cell? ⟨g2, 3, none⟩ = some (.slice none 0 0) := kz.out.cell 3
       have z4 : W9.cell? ⟨g2, 4, none⟩ = some (.slice none 0 0) := kz.out.cell 4
       have z5 : W9.cell? ⟨g2, 5, none⟩ = some (.slice none 0 0) := kz.out.cell 5
       have z6 : W9.cell? ⟨g2, 6, none⟩ = some (.int .i64 0) := kz.out.cell 6
       have z7 : W9.cell? ⟨g2, 7, none⟩ = some (.int .i64 0) := kz.out.cell 7
       refine bodyPost_ret (v := .tuple #[zeroA, .int .i64 3]) (by simp [zeroA, results, Tryz.results81, go_sem, z0, z1, z2, z3, z4, z5, z6, z7]) rfl ?_
       exact .inl ⟨by rw [hpc.out]; simp, by rw [hpc.out], kb.out⟩
   · replace hx := hx.below hb3
     replace hb1 := Lib.hid (bgo hb1.out hb3)
     have hpc : Hid (parseC b = 3) := by show _ = _; rw [parseC, if_pos E0.out, if_neg (by rw [hpo.out]; simp [hnm])]
     replace hnm := Lib.hid hnm
     have y0 := hx.cell 0
     have y1 := hx.cell 1
     have y2 := hx.cell 2
     have y3 := hx.cell 3
     have y4 := hx.cell 4
     have y5 := hx.cell 5
     have y6 := hx.cell 6
     have y7 := hx.cell 7
     simp only [List.getElem?_cons_zero, List.getElem?_cons_succ] at y0 y1 y2 y3 y4 y5 y6 y7
     have f0 := hx.frozen 0
     have f1 := hx.frozen 1
     have f2 := hx.frozen 2
     have f3 := hx.frozen 3
     have f4 := hx.frozen 4
     have f5 := hx.frozen 5
     have f6 := hx.frozen 6
     have f7 := hx.frozen 7
     go_wp2_with fail
     have kz := Lib.hid (box_set8 hx (.int .i64 0) (.int .i64 0) (.slice none 0 0) (.slice none 0 0) (.slice none 0 0) (.slice none 0 0) (.int .i64 0) (.int .i64 0))
     have kb := Lib.hid (below_set8 hb1.out hgw.out (.int .i64 0) (.int .i64 0) (.slice none 0 0) (.slice none 0 0) (.slice none 0 0) (.slice none 0 0) (.int .i64 0) (.int .i64 0))
     clear y0 y1 y2 y3 y4 y5 y6 y7 f0 f1 f2 f3 f4 f5 f6 f7
     generalize (((((((w3.setCell ⟨g2, 0, none⟩ (.int .i64 0)).setCell ⟨g2, 1, none⟩ (.int .i64 0)).setCell ⟨g2, 2, none⟩ (.slice none 0 0)).setCell ⟨g2, 3, none⟩ (.slice none 0 0)).setCell ⟨g2, 4, none⟩ (.slice none 0 0)).setCell ⟨g2, 5, none⟩ (.slice none 0 0)).setCell ⟨g2, 6, none⟩ (.int .i64 0)).setCell ⟨g2, 7, none⟩ (.int .i64 0) = W9 at *
     have z0 : W9.cell? ⟨g2, 0, none⟩ = some (.int .i64 0) := kz.out.cell 0
     have z1 : W9.cell? ⟨g2, 1, none⟩ = some (.int .i64 0) := kz.out.cell 1
     have z2 : W9.cell? ⟨g2, 2, none⟩ = some (.slice none 0 0) := kz.out.cell 2
     have z3 : W9.cell? ⟨g2, 3, none⟩ = some (.slice none 0 0) := kz.out.cell 3
     have z4 : W9.cell? ⟨g2, 4, none⟩ = some (.slice none 0 0) := kz.out.cell 4
     have z5 : W9.cell? ⟨g2, 5, none⟩ = some (.slice none 0 0) := kz.out.cell 5
     have z6 : W9.cell? ⟨g2, 6, none⟩ = some (.int .i64 0) := kz.out.cell 6
     have z7 : W9.cell? ⟨g2, 7, none⟩ = some (.int .i64 0) := kz.out.cell 7
     refine bodyPost_ret (v := .tuple #[zeroA, .int .i64 3]) (by simp [zeroA, results, Tryz.results81, go_sem, z0, z1, z2, z3, z4, z5, z6, z7]) rfl ?_
     exact .inl ⟨by rw [hpc.out]; simp, by rw [hpc.out], kb.out⟩
 · have hpc : Hid (parseC b = decC b) := by show _ = _; rw [parseC, if_neg E0]
   generalize decC b = E at *
   go_wp2_with fail
   have kz := Lib.hid (box_set8 hx (.int .i64 0) (.int .i64 0) (.slice none 0 0) (.slice none 0 0) (.slice none 0 0) (.slice none 0 0) (.int .i64 0) (.int .i64 0))
   have kb := Lib.hid (below_set8 hb1.out hgw.out (.int .i64 0) (.int .i64 0) (.slice none 0 0) (.slice none 0 0) (.slice none 0 0) (.slice none 0 0) (.int .i64 0) (.int .i64 0))
   clear y0 y1 y2 y3 y4 y5 y6 y7 f0 f1 f2 f3 f4 f5 f6 f7
   generalize (((((((w1.setCell ⟨g2, 0, none⟩ (.int .i64 0)).setCell ⟨g2, 1, none⟩ (.int .i64 0)).setCell ⟨g2, 2, none⟩ (.slice none 0 0)).setCell ⟨g2, 3, none⟩ (.slice none 0 0)).setCell ⟨g2, 4, none⟩ (.slice none 0 0)).setCell ⟨g2, 5, none⟩ (.slice none 0 0)).setCell ⟨g2, 6, none⟩ (.int .i64 0)).setCell ⟨g2, 7, none⟩ (.int .i64 0) = W9 at *
   have z0 : W9.cell? ⟨g2, 0, none⟩ = some (.int .i64 0) := kz.out.cell 0
   have z1 : W9.cell? ⟨g2, 1, none⟩ = some (.int .i64 0) := kz.out.cell 1
   have z2 : W9.cell? ⟨g2, 2, none⟩ = some (.slice none 0 0) := kz.out.cell 2
   have z3 : W9.cell? ⟨g2, 3, none⟩ = some (.slice none 0 0) := kz.out.cell 3
   have z4 : W9.cell? ⟨g2, 4, none⟩ = some (.slice none 0 0) := kz.out.cell 4
   have z5 : W9.cell? ⟨g2, 5, none⟩ = some (.slice none 0 0) := kz.out.cell 5
   have z6 : W9.cell? ⟨g2, 6, none⟩ = some (.int .i64 0) := kz.out.cell 6
   have z7 : W9.cell? ⟨g2, 7, none⟩ = some (.int .i64 0) := kz.out.cell 7
   refine bodyPost_ret (v := .tuple #[zeroA, .int .i64 E]) (by simp [zeroA, results, Tryz.results81, go_sem, z0, z1, z2, z3, z4, z5, z6, z7]) rfl ?_
   exact .inl ⟨by rw [hpc.out]; first | assumption | simp, by rw [hpc.out], kb.out⟩
end Go.Proofs.YtgehkgjllhkhoaaGreat

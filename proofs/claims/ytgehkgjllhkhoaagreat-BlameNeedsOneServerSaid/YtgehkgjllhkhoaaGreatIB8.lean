/- Contracts that a law leans on, and its walk. Conditions: those of each theorem. -/
import Derived.Deep.CutBlock
import Derived.Test.YtgehkgjllhkhoaaGreatIFKnow
import Derived.Test.YtgehkgjllhkhoaaGreatIKeys
namespace Go.Proofs.YtgehkgjllhkhoaaGreat
open Go Go.RowKit
set_option linter.unusedVariables false
set_option linter.unusedSimpArgs false
attribute [local go_sem ↓] Go.wp_at_zero Go.wp_at_succ
theorem mid_vS {lo hi : Int} (h : -1000 ≤ lo ∧ lo ≤ hi ∧ hi ≤ 1000) : vS lo hi = true := by
 unfold vS
 rw [decide_eq_true_iff]
 omega
theorem mid_inS {lo hi : Int} (h : -1000 ≤ lo ∧ lo ≤ hi ∧ hi ≤ 1000) : inS lo hi (-1099511627776) 1099511627776 = true := by
 unfold inS
 rw [mid_vS h, wide_vS, decide_eq_true (by omega), decide_eq_true (by omega)]
 rfl
theorem box_other {W : World} {g G j : Nat} {T : TypeId} {v : Value} {xs : List Value} (hne : g ≠ G) (h : Box W g T xs) : Box (W.setCell ⟨G, j, none⟩ v) g T xs :=
 ((setCell_grown W G j v).block g h.lt (fun e => hne (Option.some.inj e))).trans h
theorem box_row {W : World} {g size n : Nat} {T : TypeId} {xs : List Value} (h : Box W g T xs) (hl : xs.length = n * size) (hn : n ≤ maxLen := by decide) : Sees W W.heap.size (.slice (some ⟨g, 0, none⟩) n n) size n xs :=
 ⟨hl, _, n, rfl, Nat.le_refl _, hn, fun _ => ⟨g, 0, rfl, h.lt, fun j u hj => by rw [Nat.zero_add, h.cell]; exact hj⟩⟩
def Two8 (w : World) (g11 g12 g13 : Nat) (hi1 : Int) (W : World) : Prop :=
 ∃ (y lo2 hi2 : Int), Box W g11 23 [.int .i64 300, .int .i64 hi1] ∧ Box W g12 23 [.int .i64 lo2, .int .i64 hi2] ∧ Box W g13 3 [.int .i64 0, .int .i64 y] ∧ (y = 1 ∨ y = 0 ∧ 300 ≤ hi2) ∧ 0 ≤ lo2 ∧ lo2 ≤ hi2 ∧ hi2 ≤ 400 ∧ Below w.heap.size w W
theorem b8_plain {v y h1 lo2 hi2 : Int} {ls : List LinkG} (keys : pubG (seedW v 0) 1 ≠ pubG (seedW v 1) 1) (hlen : ls.length = 2) (hel : ∀ t ∈ ls, t.1.length = 32 ∧ t.2.1.length = 32 ∧ t.2.2.length ≤ 2048) (k0 : HonS ls 0 (seedW v 0) 300 h1) (k1 : HonS ls 1 (seedW v y) lo2 hi2)
 (b1 : 300 ≤ h1 ∧ h1 ≤ 1000) (b2 : 0 ≤ lo2 ∧ lo2 ≤ hi2 ∧ hi2 ≤ 1000) (hc : y = 1 ∨ y = 0 ∧ 300 ≤ hi2) : cverC ls = 0 ∧ FindR ls (cverV ls) none ∧ fchkC ls 0 1 = 24 := by
 have a0 := (honK_add k0.honK (by omega) (by omega) hel (mid_vS ⟨by omega, b1.1, b1.2⟩) (mid_inS ⟨by omega, b1.1, b1.2⟩)).2.2.2
 have a1 := (honK_add k1.honK (by omega) (by omega) hel (mid_vS ⟨by omega, b2.2.1, b2.2.2⟩) (mid_inS ⟨by omega, b2.2.1, b2.2.2⟩)).2.2.2
 have ha := hon_all (ls := ls) (sp := fun k => if k = 0 then (300, h1) else (lo2, hi2)) (by omega) (fun k hk => by
  obtain rfl | rfl : k = 0 ∨ k = 1 := by omega
  · exact a0
  · exact a1) 2 (by omega)
 rw [List.take_of_length_le (by omega)] at ha
 obtain ⟨hC, hV⟩ := ha
 have hg : agB ls (cverV ls) 0 1 = false := by
  rw [hV]
  show (((linkT ls 0).1 == (linkT ls 1).1) && decide (hi2 < 300)) = false
  rw [k0.pub, k1.pub]
  rcases hc with rfl | ⟨rfl, hc⟩
  · rw [beq_eq_false_iff_ne.2 keys]; rfl
  · rw [decide_eq_false (by omega), Bool.and_false]
 refine ⟨hC, fun j hj i hi => ?_, ?_⟩
 · obtain ⟨rfl, rfl⟩ : j = 1 ∧ i = 0 := by omega
   exact hg
 · rw [fchkC, if_pos hC]
   have : namesB ls 0 1 = false := by
    unfold namesB
    show (decide _ && agB ls (cverV ls) 0 1) = false
    rw [hg, Bool.and_false]
   rw [this]; rfl
set_option maxRecDepth 100000 in
set_option maxHeartbeats 8000000 in
theorem b8_law (v : Int) (wf0 : (Lit.int .i64 v).wf = true) (lo : Int) (wf1 : (Lit.int .u8 lo).wf = true) (hi : Int) (wf2 : (Lit.int .u8 hi).wf = true) (gap : Int) (wf3 : (Lit.int .u8 gap).wf = true) (how : Int) (wf4 : (Lit.int .i64 how).wf = true) (w : World) :
 Calls Tryz.prog 3 #[.int .i64 v, .int .u8 lo, .int .u8 hi, .int .u8 gap, .int .i64 how] w fun e w' => e = .returned (.bool true) ∧ Below w.heap.size w w' := by
 have hkn := Lib.hid (fun W => fknown_any W)
 have hwi := Lib.hid (fun (v m : Int) (h1 : 1 ≤ m) (h2 : m ≤ 4294967296) W => kwithin_any v m h1 h2 W)
 obtain ⟨q, hq, hq2⟩ := kmod_nat how 3 (by omega)
 have hw3 := fun W => hwi.out how 3 (by omega) (by omega) W
 rw [hq] at hw3
 replace hw3 := Lib.hid hw3
 have b1 : 0 ≤ lo ∧ lo ≤ 255 := by simpa [Lit.wf, IntKind.min, IntKind.max, IntKind.signed, IntKind.bits] using wf1
 have b2 : 0 ≤ hi ∧ hi ≤ 255 := by simpa [Lit.wf, IntKind.min, IntKind.max, IntKind.signed, IntKind.bits] using wf2
 have b3 : 0 ≤ gap ∧ gap ≤ 255 := by simpa [Lit.wf, IntKind.min, IntKind.max, IntKind.signed, IntKind.bits] using wf3
 have hg : gap.tmod 40 = gap % 40 := Int.tmod_eq_emod_of_nonneg b3.1
 have hg0 := Int.emod_nonneg gap (show (40 : Int) ≠ 0 by omega)
 have hg1 := Int.emod_lt_of_pos gap (show (0 : Int) < 40 by omega)
 clear wf0 wf1 wf2 wf3 wf4 hq hwi
 obtain ⟨b10, b11⟩ := b1
 obtain ⟨b20, b21⟩ := b2
 obtain ⟨b30, b31⟩ := b3
 go_enter Tryz.func3, Tryz.ntmps3
 go_upto_region 6 with (fail)
 have a1 := balloc w (.cells #[.int .i64 300, .int .i64 (300 + hi)] 23)
 have a2 := balloc (w.alloc (.cells #[.int .i64 300, .int .i64 (300 + hi)] 23)) (.cells #[.int .i64 lo, .int .i64 (299 - gap % 40)] 23)
 have a3 := balloc ((w.alloc (.cells #[.int .i64 300, .int .i64 (300 + hi)] 23)).alloc (.cells #[.int .i64 lo, .int .i64 (299 - gap % 40)] 23)) (.cells #[.int .i64 0, .int .i64 1] 3)
 have x11 := ((Box.new w 23 [.int .i64 300, .int .i64 (300 + hi)]).below a2).below a3
 have x12 := (Box.new (w.alloc (.cells #[.int .i64 300, .int .i64 (300 + hi)] 23)) 23 [.int .i64 lo, .int .i64 (299 - gap % 40)]).below a3
 have x13 := Box.new ((w.alloc (.cells #[.int .i64 300, .int .i64 (300 + hi)] 23)).alloc (.cells #[.int .i64 lo, .int .i64 (299 - gap % 40)] 23)) 3 [.int .i64 0, .int .i64 1]
 have hb3 := bgo (bgo a1 a2) a3
 rw [World.size_alloc] at x12
 rw [World.size_alloc, World.size_alloc] at x13
 change Box (((w.alloc (.cells #[.int .i64 300, .int .i64 (300 + hi)] 23)).alloc (.cells #[.int .i64 lo, .int .i64 (299 - gap % 40)] 23)).alloc (.cells #[.int .i64 0, .int .i64 1] 3)) _ _ _ at x13
 generalize ((w.alloc (.cells #[.int .i64 300, .int .i64 (300 + hi)] 23)).alloc (.cells #[.int .i64 lo, .int .i64 (299 - gap % 40)] 23)).alloc (.cells #[.int .i64 0, .int .i64 1] 3) = W3 at *
 clear a1 a2 a3
 have hh2 : 299 - gap % 40 ≤ 299 ∧ 259 < 299 - gap % 40 := by omega
 generalize 299 - gap % 40 = h2 at *
 have hlh : lo ≤ h2 := by omega
 have n12 : w.heap.size ≠ w.heap.size + 1 := by omega
 have n13 : w.heap.size ≠ w.heap.size + 1 + 1 := by omega
 have n23 : w.heap.size + 1 ≠ w.heap.size + 1 + 1 := by omega
 have hgw : w.heap.size ≤ w.heap.size + 1 ∧ w.heap.size ≤ w.heap.size + 1 + 1 := by omega
 have hh1 : 300 ≤ 300 + hi ∧ 300 + hi ≤ 600 := by omega
 generalize 300 + hi = h1 at *
 obtain ⟨g0, hg0'⟩ : ∃ g, w.heap.size = g := ⟨_, rfl⟩
 rw [hg0'] at x11 x12 x13 n12 n13 n23 hgw ⊢
 generalize g0 + 1 + 1 = g13 at *
 generalize g0 + 1 = g12 at *
 replace hg0' := Lib.hid hg0'
 go_wp2_with fail
 refine (hw3.out _).mono ?_
 rintro e w3 ⟨rfl, hw⟩
 obtain rfl := hw.symm
 dsimp only
 go_upto_block 0 with (fail)
 replace hgw := Lib.hid hgw
 go_cut [42, 47] (fun v42 v47 W => Two8 w g0 g12 g13 h1 W)
 case first =>
  have k2 := x12.cell 1
  have k1 := x12.cell 0
  have m1 := x13.cell 1
  simp only [List.getElem?_cons_zero, List.getElem?_cons_succ] at k1 k2 m1
  have f1 := x12.frozen 0
  have f2 := x12.frozen 1
  have f3 := x13.frozen 1
  obtain rfl | rfl | rfl : q = 0 ∨ q = 1 ∨ q = 2 := by omega
  · have hdone : Hid (Two8 w g0 g12 g13 h1 W3) := ⟨1, lo, h2, x11, x12, x13, .inl rfl, b10, hlh, by omega, hb3⟩
    clear x11 x12 x13 hb3
    go_wp2_with fail
    go_meet
    exact hdone.out
  · have hdone : Hid (Two8 w g0 g12 g13 h1 ((W3.setCell ⟨g13, 1, none⟩ (.int .i64 0)).setCell ⟨g12, 1, none⟩ (.int .i64 300))) := by
     refine ⟨0, lo, 300, ?_, ?_, ?_, .inr ⟨rfl, by omega⟩, b10, by omega, by omega, (hb3.setCell (p := ⟨g13, 1, none⟩) (by rw [hg0'.out]; exact hgw.out.2) _).setCell (p := ⟨g12, 1, none⟩) (by rw [hg0'.out]; exact hgw.out.1) _⟩
     · exact (box_other n12 (box_other n13 x11))
     · have := (box_other (v := .int .i64 0) (j := 1) n23 x12).set 1 (.int .i64 300)
       simpa only [List.set_cons_zero, List.set_cons_succ] using this
     · have := x13.set 1 (.int .i64 0)
       simp only [List.set_cons_zero, List.set_cons_succ] at this
       exact box_other (Ne.symm n23) this
    clear x11 x12 x13 hb3
    go_wp2_with fail
    go_meet
    exact hdone.out
  · have hdone : Hid (Two8 w g0 g12 g13 h1 (((W3.setCell ⟨g13, 1, none⟩ (.int .i64 0)).setCell ⟨g12, 0, none⟩ (.int .i64 301)).setCell ⟨g12, 1, none⟩ (.int .i64 400))) := by
     refine ⟨0, 301, 400, ?_, ?_, ?_, .inr ⟨rfl, by omega⟩, by omega, by omega, by omega, ((hb3.setCell (p := ⟨g13, 1, none⟩) (by rw [hg0'.out]; exact hgw.out.2) _).setCell (p := ⟨g12, 0, none⟩) (by rw [hg0'.out]; exact hgw.out.1) _).setCell (p := ⟨g12, 1, none⟩) (by rw [hg0'.out]; exact hgw.out.1) _⟩
     · exact box_other n12 (box_other n12 (box_other n13 x11))
     · have := ((box_other (v := .int .i64 0) (j := 1) n23 x12).set 0 (.int .i64 301)).set 1 (.int .i64 400)
       simpa only [List.set_cons_zero, List.set_cons_succ] using this
     · have := x13.set 1 (.int .i64 0)
       simp only [List.set_cons_zero, List.set_cons_succ] at this
       exact box_other (Ne.symm n23) (box_other (Ne.symm n23) this)
    clear x11 x12 x13 hb3
    go_wp2_with fail
    go_meet
    exact hdone.out
 case rest =>
 obtain ⟨y, lo2, hi2, y11, y12, y13, hc, c1, c2, c3, hb4⟩ := hcut
 obtain ⟨W4, rfl⟩ : ∃ W4 : World, W4 = wc := ⟨_, rfl⟩
 clear x11 x12 x13 hb3
 obtain ⟨k0, k1, -, -⟩ := box2_cells y11
 obtain ⟨m0, m1, -, -⟩ := box2_cells y12
 have hal := balloc W4 (.cells #[.int .i64 300, .int .i64 h1, .int .i64 lo2, .int .i64 hi2] 23)
 have hs1 : Sees (W4.alloc (.cells #[.int .i64 300, .int .i64 h1, .int .i64 lo2, .int .i64 hi2] 23)) (W4.alloc (.cells #[.int .i64 300, .int .i64 h1, .int .i64 lo2, .int .i64 hi2] 23)).heap.size (.slice (some ⟨g13, 0, none⟩) 2 2) 1 2 [.int .i64 0, .int .i64 y] := box_row (y13.below hal) rfl
 have hs2 : Sees (W4.alloc (.cells #[.int .i64 300, .int .i64 h1, .int .i64 lo2, .int .i64 hi2] 23)) (W4.alloc (.cells #[.int .i64 300, .int .i64 h1, .int .i64 lo2, .int .i64 hi2] 23)).heap.size (.slice (some ⟨W4.heap.size, 0, none⟩) 2 2) 2 2 [.int .i64 300, .int .i64 h1, .int .i64 lo2, .int .i64 hi2] := box_row (Box.new W4 23 [.int .i64 300, .int .i64 h1, .int .i64 lo2, .int .i64 hi2]) rfl
 have hch := Lib.hid (kchainS_any v 2 (by omega) (fun k => if k = 0 then 0 else y) (fun k => if k = 0 then (300, h1) else (lo2, hi2)) _ _ (fun k hk => by
  obtain rfl | rfl : k = 0 ∨ k = 1 := by omega
  · rfl
  · rfl) (fun k hk => by
  obtain rfl | rfl : k = 0 ∨ k = 1 := by omega
  · exact ⟨rfl, rfl⟩
  · exact ⟨rfl, rfl⟩) (fun k => by split <;> omega) (fun k hk => by
  obtain rfl | rfl : k = 0 ∨ k = 1 := by omega
  · exact ⟨mid_vS ⟨by simp, by simp; omega, by simp; omega⟩, mid_inS ⟨by simp, by simp; omega, by simp; omega⟩⟩
  · exact ⟨mid_vS ⟨by simp; omega, by simp; omega, by simp; omega⟩, mid_inS ⟨by simp; omega, by simp; omega, by simp; omega⟩⟩) _ _ _ hs1 hs2)
 replace hb4 := bgo hb4 hal
 clear hs1 hs2 hal y13
 go_upto_region 11 with (fail)
 go_wp2_with fail
 refine hch.out.mono ?_
 rintro e w5 ⟨v5, ls, rfl, o5, hlen, hel, hho, hb5⟩
 obtain ⟨hC, hF, h24⟩ := b8_plain (keys_differ v) hlen hel (hho 0 (by omega)) (hho 1 (by omega)) ⟨hh1.1, (by omega : h1 ≤ 1000)⟩ ⟨c1, c2, (by omega : hi2 ≤ 1000)⟩ hc
 have o5s := o5.own.sees
 obtain ⟨A5, c5, rfl, -, -⟩ := o5s.mk_
 have he3 : ∀ t ∈ ls, t.1.length ≤ 1048576 ∧ t.2.1.length ≤ 1048576 ∧ t.2.2.length ≤ 1048576 := fun t ht => by have := hel t ht; omega
 have hf1 := Lib.hid (bfind_any w5.heap.size _ ls w5 o5s (Nat.le_refl _) (by omega) he3)
 have hf2 := Lib.hid (fun W (hW : Below w5.heap.size w5 W) => fcheck_any w5.heap.size _ ls 0 1 W (o5s.below hW) hW.size (by omega) he3)
 unfold FChkP at hf2
 rw [h24] at hf2
 replace hb4 := Lib.hid (bgo hb4 hb5)
 replace hC := Lib.hid hC
 replace hF := Lib.hid hF
 replace hlen := Lib.hid hlen
 clear o5 o5s he3 hel hho hb5 h24 hch y11 y12 k0 k1 m0 m1
 dsimp only
 go_wp2_with fail
 refine hf1.out.mono ?_
 intro e w6 h6
 have h6' : e = .returned (.tuple #[.agg #[.slice none 0 0, .int .i64 0, .int .i64 0], .bool false, .int .i64 0]) ∧ Below w5.heap.size w5 w6 := by
  rcases h6 with ⟨h, -⟩ | ⟨-, -, h1, h2⟩ | ⟨-, i, j, v, hr, -⟩
  · exact absurd hC.out h
  · exact ⟨h1, h2⟩
  · cases find_one hF.out hr
 obtain ⟨rfl, hb6⟩ := h6'
 have hal := balloc w6 (.cells #[.slice none 0 0, .int .i64 0, .int .i64 0] 30)
 have h7 := Lib.hid (hf2.out _ (bgo hb6 hal))
 replace hb4 := Lib.hid (bgo (bgo hb4.out hb6) hal)
 clear h6 hf1 hf2 hb6 hal
 dsimp only
 go_upto_region 13 with (fail)
 generalize w6.alloc (.cells #[.slice none 0 0, .int .i64 0, .int .i64 0] 30) = W6 at *
 go_wp2_with fail
 refine h7.out.mono ?_
 rintro e w7 ⟨v7, rfl, -, hb7⟩
 replace hb4 := Lib.hid (bgo hb4.out hb7)
 clear h7 hb7
 dsimp only
 go_wp2_with fail
 refine (hkn.out _).mono ?_
 rintro e w8 ⟨rfl, hb8⟩
 replace hb4 := Lib.hid (bgo hb4.out hb8)
 dsimp only
 go_wp2_with fail
 go_ret
 exact ⟨rfl, hb4.out⟩
end Go.Proofs.YtgehkgjllhkhoaaGreat

/- What a law leans on beyond the base: contracts, plain functions, walks. Conditions: those of each theorem. -/
import Derived.Test.YtjgepckncogdaaaGreatZC1
set_option linter.unusedVariables false
set_option linter.unusedSimpArgs false
namespace Go.Proofs.YtjgepckncogdaaaGreat
open Go Go.RowKit
set_option linter.unusedVariables false
attribute [local go_sem ↓] Go.wp_at_zero Go.wp_at_succ
theorem parse_len {b : Bs} (h : parseC b = 0) : b.length ≤ 2048 := by
 by_cases h9 : 2048 < b.length
 · rw [parseC, dec_long b h9] at h
   simp at h
 · omega
def sigN (b : Bs) : Bs := (unpadG (datN b 3)).getD []
def pathN (b : Bs) : List Bs := cutL 32 ((datN b 2).length / 32) (datN b 2)
def bsigOk (p b : Bs) : Bool := verifyG p (tBatch ++ datN b 4) (sigN b)
def bpathOk (n b : Bs) : Bool := checkI (datN (datN b 4) 0) (getB (datN b 1) : Int) (getB (datN b 0) : Int) n (pathN b)
def bverC (p n b : Bs) : Int := if n.length = 32 then (if parseC b = 0 then (if bsigOk p b = true then (if bpathOk n b = true then 0 else 23) else 26) else parseC b) else 3
def bverLo (p n b : Bs) : Int := if bverC p n b = 0 then unLo (datN (datN b 4) 1) else 0
def bverHi (p n b : Bs) : Int := if bverC p n b = 0 then unHi (datN (datN b 4) 1) else 0
def BVerP (p n b : Bs) (w : World) (e : Ending) (w' : World) : Prop := e = .returned (.tuple #[.agg #[.int .i64 (bverLo p n b), .int .i64 (bverHi p n b)], .int .i64 (bverC p n b)]) ∧ Below w.heap.size w w'
theorem bver_bad {p n b : Bs} {c : Int} (h : bverC p n b = c) (hc : c ≠ 0) {w w' : World} {e : Ending} (he : e = .returned (.tuple #[.agg #[.int .i64 0, .int .i64 0], .int .i64 c])) (hb : Below w.heap.size w w') : BVerP p n b w e w' := by
 refine ⟨?_, hb⟩
 rw [bverLo, bverHi, h, if_neg hc, if_neg hc]
 exact he
theorem bver_ok {p n b : Bs} {lo hi : Int} (h : bverC p n b = 0) (h1 : unLo (datN (datN b 4) 1) = lo) (h2 : unHi (datN (datN b 4) 1) = hi) {w w' : World} {e : Ending} (he : e = .returned (.tuple #[.agg #[.int .i64 lo, .int .i64 hi], .int .i64 0])) (hb : Below w.heap.size w w') : BVerP p n b w e w' := by
 refine ⟨?_, hb⟩
 rw [bverLo, bverHi, h, if_pos rfl, if_pos rfl, h1, h2]
 exact he
theorem cutL_each (size n : Nat) (l : Bs) : ∀ x ∈ cutL size n l, x.length ≤ size := by
 intro x hx
 obtain ⟨k, hk⟩ := List.mem_iff_getElem?.1 hx
 have hl : k < n := by
  have := (List.getElem?_eq_some_iff.1 hk).1
  rwa [cutL_len] at this
 have := cutL_get size n l k hl
 rw [List.getD_eq_getElem?_getD, hk] at this
 rw [Option.getD_some] at this
 rw [this, List.length_take]
 omega
theorem lit13_run (W : World) (G : Nat) (hG : G = W.heap.size) : (convert 25 25 (.slice (some ⟨G, 0, none⟩) 13 13)).run Tryz.prog (W.alloc (.cells #[.int .u8 115, .int .u8 101, .int .u8 99, .int .u8 116, .int .u8 105, .int .u8 109, .int .u8 101, .int .u8 32, .int .u8 98, .int .u8 97, .int .u8 116, .int .u8 99, .int .u8 104] 5)).drew = .ok (.slice (some ⟨G, 0, none⟩) 13 13) (W.alloc (.cells #[.int .u8 115, .int .u8 101, .int .u8 99, .int .u8 116, .int .u8 105, .int .u8 109, .int .u8 101, .int .u8 32, .int .u8 98, .int .u8 97, .int .u8 116, .int .u8 99, .int .u8 104] 5 (13, 14))).drew := by
 subst hG
 exact Lib.run_convert_bytes_const W.drew 25 5 #[.int .u8 115, .int .u8 101, .int .u8 99, .int .u8 116, .int .u8 105, .int .u8 109, .int .u8 101, .int .u8 32, .int .u8 98, .int .u8 97, .int .u8 116, .int .u8 99, .int .u8 104] 13 13 Tryz.underlying25 Tryz.underlying5
theorem lit13_sees (W : World) : SeesB (W.alloc (.cells #[.int .u8 115, .int .u8 101, .int .u8 99, .int .u8 116, .int .u8 105, .int .u8 109, .int .u8 101, .int .u8 32, .int .u8 98, .int .u8 97, .int .u8 116, .int .u8 99, .int .u8 104] 5 (13, 14))) (W.heap.size + 1) (.slice (some ⟨W.heap.size, 0, none⟩) 13 13) tBatch := litB_sees W tBatch (13, 14) (by simp [tBatch])
set_option maxRecDepth 100000 in
set_option maxHeartbeats 4000000 in
theorem bverify_any (B : Nat) (u u2 u3 : Value) (p n b : Bs) (w : World) (hu : SeesB w B u p) (hu2 : SeesB w B u2 n) (hu3 : SeesB w B u3 b) (hB : B ≤ w.heap.size) (hl : b.length ≤ 1048576) :
 Calls Tryz.prog 18 #[u, u2, u3] w (BVerP p n b w) := by
 obtain ⟨A, c, rfl, -, -⟩ := hu.mk_
 obtain ⟨A2, c2, rfl, -, -⟩ := hu2.mk_
 obtain ⟨A3, c3, rfl, -, -⟩ := hu3.mk_
 by_cases hn : n.length = 32
 · have hb0 := balloc w (.cells #[.int .i64 0, .int .i64 0] 24)
   have hr := Box.new w 24 [.int .i64 0, .int .i64 0]
   have hp := bparse_any B _ b _ (hu3.below (hb0.mono hB)) (Nat.le_trans hB hb0.size) hl
   replace hp := Lib.hid hp
   have in0 : (n.length : Int) = 32 := by omega
   go_enter Tryz.func18, Tryz.ntmps18
   go_wp2_with fail
   refine hp.out.mono ?_
   rintro e w1 hP
   clear hp hu3
   rcases hP with ⟨hC, rfl, hb1⟩ | ⟨hC, pa, si, pt, ro, rfl, spa, ⟨sg, hsg, ssi⟩, spt, sro, hb1⟩
   · have hbad : Hid (bverC p n b = parseC b) := by show _ = _; rw [bverC, if_pos hn, if_neg hC]
     replace hr := (hr.below hb1).below (balloc w1 (.cells #[.int .i64 0, .int .i64 0, .slice none 0 0, .slice none 0 0, .slice none 0 0, .slice none 0 0, .int .i64 0, .int .i64 0] 126))
     have hbw := bgo (bgo hb0 hb1) (balloc w1 (.cells #[.int .i64 0, .int .i64 0, .slice none 0 0, .slice none 0 0, .slice none 0 0, .slice none 0 0, .int .i64 0, .int .i64 0] 126))
     replace hn := Lib.hid hn
     generalize parseC b = E at *
     have hEb : (E == 0) = false := by rw [beq_eq_false_iff_ne]; exact hC
     unfold zeroA
     dsimp only
     go_upto_region 4 with (fail)
     change Box (w1.alloc (.cells #[.int .i64 0, .int .i64 0, .slice none 0 0, .slice none 0 0, .slice none 0 0, .slice none 0 0, .int .i64 0, .int .i64 0] 126)) _ _ _ at hr
     generalize w1.alloc (.cells #[.int .i64 0, .int .i64 0, .slice none 0 0, .slice none 0 0, .slice none 0 0, .slice none 0 0, .int .i64 0, .int .i64 0] 126) = W2 at *
     generalize hg2 : w.heap.size = g2 at hr ⊢
     replace hg2 := Lib.hid hg2
     have y0 := hr.cell 0
     have y1 := hr.cell 1
     simp only [List.getElem?_cons_zero, List.getElem?_cons_succ] at y0 y1
     have f0 := hr.frozen 0
     have f1 := hr.frozen 1
     replace hbw := Lib.hid hbw
     go_wp2_with fail
     replace hbw := hbw.out
     have kz := Lib.hid (box_set2 hr (.int .i64 0) (.int .i64 0))
     have kb := Lib.hid (below_set2 hbw (Nat.le_of_eq hg2.out) (.int .i64 0) (.int .i64 0))
     clear y0 y1 f0 f1
     generalize (W2.setCell ⟨g2, 0, none⟩ (.int .i64 0)).setCell ⟨g2, 1, none⟩ (.int .i64 0) = W9 at *
     have z0 : W9.cell? ⟨g2, 0, none⟩ = some (.int .i64 0) := kz.out.cell 0
     have z1 : W9.cell? ⟨g2, 1, none⟩ = some (.int .i64 0) := kz.out.cell 1
     refine bodyPost_ret (v := .tuple #[.agg #[.int .i64 0, .int .i64 0], .int .i64 E]) (by simp [results, Tryz.results18, go_sem, z0, z1]) rfl ?_
     exact bver_bad hbad.out hC rfl kb.out
   · have hin : Hid (∀ k, (datN b k).length ≤ b.length) := datN_len b
     have hix : Hid (sigN b = sg) := by show _ = _; rw [sigN, hsg]; rfl
     have hcl : Hid (∀ x ∈ pathN b, x.length ≤ 1048576) := fun x hx => Nat.le_trans (cutL_each _ _ _ x hx) (by omega)
     have hC1 : Hid (bverC p n b = if bsigOk p b = true then (if bpathOk n b = true then 0 else 23) else 26) := by show _ = _; rw [bverC, if_pos hn, if_pos hC]
     change SeesL w1 w1.heap.size pa (pathN b) at spa
     have hbs : Hid (bsigOk p b = verifyG p (tBatch ++ datN b 4) sg) := by show _ = _; rw [bsigOk, hix.out]
     have hbp : Hid (bpathOk n b = checkI (datN (datN b 4) 0) (getB (datN b 1) : Int) (getB (datN b 0) : Int) n (pathN b)) := rfl
     have hl4 : Hid ((datN b 4).length ≤ 2048) := Nat.le_trans (datN_len b 4) (parse_len hC)
     have hsl : Hid (sg.length ≤ 1048576) := by
      show _ ≤ _
      have h9 : sg.length ≤ (datN b 3).length := by
       unfold unpadG at hsg
       split at hsg
       · cases hsg
       · split at hsg
         · cases hsg
           simp
           omega
         · cases hsg
      exact Nat.le_trans h9 (Nat.le_trans (datN_len b 3) hl)
     have hlo : Hid (unLo (datN (datN b 4) 1) = unLo (datN (datN b 4) 1)) := rfl
     have hhi : Hid (unHi (datN (datN b 4) 1) = unHi (datN (datN b 4) 1)) := rfl
     generalize hlo' : unLo (datN (datN b 4) 1) = lo at hlo ⊢
     generalize hhi' : unHi (datN (datN b 4) 1) = hi at hhi ⊢
     replace hlo' := Lib.hid hlo'
     replace hhi' := Lib.hid hhi'
     clear hlo hhi
     generalize datN (datN b 4) 0 = rt at *
     generalize hd4e : datN b 4 = d4 at *
     replace hd4e := Lib.hid hd4e
     generalize getB (datN b 1) = nx at *
     generalize getB (datN b 0) = ix at *
     generalize hps : pathN b = ps at *
     replace hps := Lib.hid hps
     obtain ⟨A5, c5, rfl, -, -⟩ := spa.mk_
     obtain ⟨A6, c6, rfl, -, -⟩ := ssi.mk_
     obtain ⟨A7, c7, rfl, -, -⟩ := spt.mk_
     obtain ⟨A8, c8, rfl, -, -⟩ := sro.mk_
     have hal := balloc w1 (.cells #[.int .i64 (ix : Int), .int .i64 (nx : Int), .slice A5 ps.length c5, .slice A6 sg.length c6, .slice A7 d4.length c7, .slice A8 rt.length c8, .int .i64 lo, .int .i64 hi] 126)
     have hx := Box.new w1 126 [.int .i64 (ix : Int), .int .i64 (nx : Int), .slice A5 ps.length c5, .slice A6 sg.length c6, .slice A7 d4.length c7, .slice A8 rt.length c8, .int .i64 lo, .int .i64 hi]
     change Box (w1.alloc (.cells #[.int .i64 (ix : Int), .int .i64 (nx : Int), .slice A5 ps.length c5, .slice A6 sg.length c6, .slice A7 d4.length c7, .slice A8 rt.length c8, .int .i64 lo, .int .i64 hi] 126)) _ _ _ at hx
     replace hr := (hr.below hb1).below hal
     have hbw := bgo (bgo hb0 hb1) hal
     have spa2 := seesL_of spa (Nat.le_refl _) hal
     have ssi2 := seesB_of ssi (Nat.le_refl _) hal
     have spt2 := seesB_of spt (Nat.le_refl _) hal
     have sro2 := seesB_of sro (Nat.le_refl _) hal
     have su := seesB_of hu hB hbw
     have su2 := seesB_of hu2 hB hbw
     clear spa ssi spt sro hu hu2 hsg hal hb0 hb1 hin
     replace hC := Lib.hid hC
     replace hn := Lib.hid hn
     dsimp only
     go_upto_region 4 with (fail)
     generalize w1.alloc (.cells #[.int .i64 (ix : Int), .int .i64 (nx : Int), .slice A5 ps.length c5, .slice A6 sg.length c6, .slice A7 d4.length c7, .slice A8 rt.length c8, .int .i64 lo, .int .i64 hi] 126) = W2 at *
     generalize w1.heap.size = G at *
     generalize hg2 : w.heap.size = g2 at hr ⊢
     replace hg2 := Lib.hid hg2
     have K : Hid (∀ W : World, Below W2.heap.size W2 W → W.cell? ⟨G, 3, none⟩ = some (.slice A6 sg.length c6) ∧ W.cell? ⟨G, 4, none⟩ = some (.slice A7 d4.length c7)) := fun W hW => ⟨(hx.below hW).cell 3, (hx.below hW).cell 4⟩
     obtain ⟨x3, x4⟩ := K.out W2 (Below.refl _ _)
     have hcv := lit13_run W2 W2.heap.size rfl
     have hLS := lit13_sees W2
     have hbL := balloc W2 (.cells #[.int .u8 115, .int .u8 101, .int .u8 99, .int .u8 116, .int .u8 105, .int .u8 109, .int .u8 101, .int .u8 32, .int .u8 98, .int .u8 97, .int .u8 116, .int .u8 99, .int .u8 104] 5 (13, 14))
     have hfl : [tBatch, d4].flatten = tBatch ++ d4 := by simp
     have htl : tBatch.length = 13 := rfl
     have hj : Calls Tryz.prog 70 #[.slice (some ⟨W2.heap.size + 1, 0, none⟩) 2 2] ((W2.alloc (.cells #[.int .u8 115, .int .u8 101, .int .u8 99, .int .u8 116, .int .u8 105, .int .u8 109, .int .u8 101, .int .u8 32, .int .u8 98, .int .u8 97, .int .u8 116, .int .u8 99, .int .u8 104] 5 (13, 14))).alloc (.cells #[.slice (some ⟨W2.heap.size, 0, none⟩) 13 13, .slice A7 d4.length c7] 25)).drew fun e w' => ∃ v, e = .returned v ∧ OwnB w' W2.heap.size v [tBatch, d4].flatten ∧ Below W2.heap.size W2 w' :=
      join_lit (vs := [.slice (some ⟨W2.heap.size, 0, none⟩) 13 13, .slice A7 d4.length c7]) [tBatch, d4] W2 (W2.alloc (.cells #[.int .u8 115, .int .u8 101, .int .u8 99, .int .u8 116, .int .u8 105, .int .u8 109, .int .u8 101, .int .u8 32, .int .u8 98, .int .u8 97, .int .u8 116, .int .u8 99, .int .u8 104] 5 (13, 14))).drew (W2.heap.size + 1) (World.size_alloc _ _) (hbL.drew) ⟨hLS.more (by show _ ≤ (W2.alloc _).heap.size; rw [World.size_alloc]; exact Nat.le_refl _), seesB_of spt2 (Nat.le_refl _) hbL.drew, trivial⟩ (by simp) (by rw [hfl]; simp [htl]; have := hl4.out; omega)
     rw [hfl] at hj
     have hm2 : (tBatch ++ d4).length ≤ 1048589 := by rw [List.length_append, htl]; have := hl4.out; omega
     have hvf : Hid (∀ W v, Below W2.heap.size W2 W → SeesB W W.heap.size v (tBatch ++ d4) → Calls Tryz.prog 78 #[.slice A p.length c, v, .slice A6 sg.length c6] W (BoolPost (bsigOk p b) W)) := fun W v hW hv => by
      rw [hbs.out]
      exact verify_any W.heap.size _ v _ p (tBatch ++ d4) sg W (seesB_of su (Nat.le_refl _) hW) hv (seesB_of ssi2 (Nat.le_refl _) hW) (Nat.le_refl _) (by have := hl4.out; rw [List.length_append, htl]; omega) hsl.out
     have hck : Hid (∀ W, Below W2.heap.size W2 W → Calls Tryz.prog 79 #[.slice A8 rt.length c8, .int .i64 (nx : Int), .int .i64 (ix : Int), .slice A2 n.length c2, .slice A5 ps.length c5] W (BoolPost (bpathOk n b) W)) := fun W hW => by
      rw [hbp.out]
      exact check_any rt (nx : Int) (ix : Int) n ps W.heap.size _ _ _ W (seesB_of sro2 (Nat.le_refl _) hW) (seesB_of su2 (Nat.le_refl _) hW) (seesL_of spa2 (Nat.le_refl _) hW) (Nat.le_refl _) (by have := hn.out; omega) hcl.out
     generalize hTB : tBatch ++ d4 = TB at hj hvf
     replace hTB := Lib.hid hTB
     replace hj := Lib.hid hj
     replace hbw := Lib.hid hbw
     replace hr := Lib.hid hr
     replace hx := Lib.hid hx
     generalize hsb : bsigOk p b = sok at *
     generalize hpb : bpathOk n b = pok at *
     replace hsb := Lib.hid hsb
     replace hpb := Lib.hid hpb
     clear spa2 ssi2 spt2 sro2 su su2 hLS hbL hfl htl hbs hbp hcl hm2 hl4 hsl
     go_wp2_with fail
     go_cut [24] (fun v W => v = .bool (!sok) ∧ Hid (Below W2.heap.size W2 W))
     case first =>
      have a3 : (W2.alloc (.cells #[.int .u8 115, .int .u8 101, .int .u8 99, .int .u8 116, .int .u8 105, .int .u8 109, .int .u8 101, .int .u8 32, .int .u8 98, .int .u8 97, .int .u8 116, .int .u8 99, .int .u8 104] 5)).cell? ⟨G, 3, none⟩ = some (.slice A6 sg.length c6) := (K.out _ (balloc W2 _)).1
      have a4 : (W2.alloc (.cells #[.int .u8 115, .int .u8 101, .int .u8 99, .int .u8 116, .int .u8 105, .int .u8 109, .int .u8 101, .int .u8 32, .int .u8 98, .int .u8 97, .int .u8 116, .int .u8 99, .int .u8 104] 5)).cell? ⟨G, 4, none⟩ = some (.slice A7 d4.length c7) := (K.out _ (balloc W2 _)).2
      have b3 : (W2.alloc (.cells #[.int .u8 115, .int .u8 101, .int .u8 99, .int .u8 116, .int .u8 105, .int .u8 109, .int .u8 101, .int .u8 32, .int .u8 98, .int .u8 97, .int .u8 116, .int .u8 99, .int .u8 104] 5 (13, 14))).cell? ⟨G, 3, none⟩ = some (.slice A6 sg.length c6) := (K.out _ (balloc W2 _)).1
      have b4 : (W2.alloc (.cells #[.int .u8 115, .int .u8 101, .int .u8 99, .int .u8 116, .int .u8 105, .int .u8 109, .int .u8 101, .int .u8 32, .int .u8 98, .int .u8 97, .int .u8 116, .int .u8 99, .int .u8 104] 5 (13, 14))).cell? ⟨G, 4, none⟩ = some (.slice A7 d4.length c7) := (K.out _ (balloc W2 _)).2
      have e3 : ((W2.alloc (.cells #[.int .u8 115, .int .u8 101, .int .u8 99, .int .u8 116, .int .u8 105, .int .u8 109, .int .u8 101, .int .u8 32, .int .u8 98, .int .u8 97, .int .u8 116, .int .u8 99, .int .u8 104] 5 (13, 14))).alloc (.cells #[.slice (some ⟨W2.heap.size, 0, none⟩) 13 13, .slice A7 d4.length c7] 25)).cell? ⟨G, 3, none⟩ = some (.slice A6 sg.length c6) := (K.out _ (bgo (balloc W2 _) (balloc _ _))).1
      go_region_with
       (first
        | (go_at_call 78; (with_reducible refine (hvf.out _ _ hb3 h3.sees).mono ?_); rintro e w4 ⟨rfl, hb4⟩; replace hb4 := bgo hb3 hb4)
        | (go_at_call 70; (with_reducible refine hj.out.mono ?_); rintro e w3 ⟨v3, rfl, h3, hb3⟩; obtain ⟨A9, c9, rfl, -, -⟩ := h3.sees.mk_; have d3 := (K.out _ hb3).1))
      all_goals
       go_wp2_with fail
       go_meet
       exact ⟨rfl, hb4⟩
     case rest =>
      obtain ⟨rfl, hb4⟩ := hcut
      obtain ⟨w4, rfl⟩ : ∃ w4 : World, w4 = wc := ⟨_, rfl⟩
      replace hb4 := hb4.out
      have hbw4 := bgo hbw.out hb4
      clear x3 x4 hcv
      have hx4 := hx.out.below hb4
      replace hr := hr.out.below hb4
      have x0 := hx4.cell 0
      have x1 := hx4.cell 1
      have x2 := hx4.cell 2
      have x5 := hx4.cell 5
      simp only [List.getElem?_cons_zero, List.getElem?_cons_succ] at x0 x1 x2 x5
      clear hj K
      have hck4 := Lib.hid (hck.out w4 hb4)
      clear hck hvf
      replace hbw := hbw4
      clear hbw4
      cases sok with
      | false =>
        have hbad : Hid (bverC p n b = 26) := by show _ = _; rw [hC1.out]; simp
        clear x0 x1 x2 x5 hck4
        have y0 := hr.cell 0
        have y1 := hr.cell 1
        simp only [List.getElem?_cons_zero, List.getElem?_cons_succ] at y0 y1
        have f0 := hr.frozen 0
        have f1 := hr.frozen 1
        replace hbw := Lib.hid hbw
        go_wp2_with fail
        replace hbw := hbw.out
        have kz := Lib.hid (box_set2 hr (.int .i64 0) (.int .i64 0))
        have kb := Lib.hid (below_set2 hbw (Nat.le_of_eq hg2.out) (.int .i64 0) (.int .i64 0))
        clear y0 y1 f0 f1
        generalize (w4.setCell ⟨g2, 0, none⟩ (.int .i64 0)).setCell ⟨g2, 1, none⟩ (.int .i64 0) = W9 at *
        have z0 : W9.cell? ⟨g2, 0, none⟩ = some (.int .i64 0) := kz.out.cell 0
        have z1 : W9.cell? ⟨g2, 1, none⟩ = some (.int .i64 0) := kz.out.cell 1
        refine bodyPost_ret (v := .tuple #[.agg #[.int .i64 0, .int .i64 0], .int .i64 26]) (by simp [results, Tryz.results18, go_sem, z0, z1]) rfl ?_
        exact bver_bad hbad.out (by decide) rfl kb.out
      | true =>
        replace hbw := Lib.hid hbw
        go_wp2_with fail
        refine hck4.out.mono ?_
        rintro e w5 ⟨rfl, hb5⟩
        replace hbw := bgo hbw.out hb5
        replace hr := hr.below hb5
        have hx5 := hx4.below hb5
        clear x0 x1 x2 x5 hck4 hx4
        cases pok with
        | false =>
          have hbad : Hid (bverC p n b = 23) := by show _ = _; rw [hC1.out]; simp
          have y0 := hr.cell 0
          have y1 := hr.cell 1
          simp only [List.getElem?_cons_zero, List.getElem?_cons_succ] at y0 y1
          have f0 := hr.frozen 0
          have f1 := hr.frozen 1
          replace hbw := Lib.hid hbw
          go_wp2_with fail
          replace hbw := hbw.out
          have kz := Lib.hid (box_set2 hr (.int .i64 0) (.int .i64 0))
          have kb := Lib.hid (below_set2 hbw (Nat.le_of_eq hg2.out) (.int .i64 0) (.int .i64 0))
          clear y0 y1 f0 f1
          generalize (w5.setCell ⟨g2, 0, none⟩ (.int .i64 0)).setCell ⟨g2, 1, none⟩ (.int .i64 0) = W9 at *
          have z0 : W9.cell? ⟨g2, 0, none⟩ = some (.int .i64 0) := kz.out.cell 0
          have z1 : W9.cell? ⟨g2, 1, none⟩ = some (.int .i64 0) := kz.out.cell 1
          refine bodyPost_ret (v := .tuple #[.agg #[.int .i64 0, .int .i64 0], .int .i64 23]) (by simp [results, Tryz.results18, go_sem, z0, z1]) rfl ?_
          exact bver_bad hbad.out (by decide) rfl kb.out
        | true =>
          have hok : Hid (bverC p n b = 0) := by show _ = _; rw [hC1.out]; simp
          have x6 := hx5.cell 6
          have x7 := hx5.cell 7
          simp only [List.getElem?_cons_zero, List.getElem?_cons_succ] at x6 x7
          have y0 := hr.cell 0
          have y1 := hr.cell 1
          simp only [List.getElem?_cons_zero, List.getElem?_cons_succ] at y0 y1
          have f0 := hr.frozen 0
          have f1 := hr.frozen 1
          replace hbw := Lib.hid hbw
          go_wp2_with fail
          replace hbw := hbw.out
          have kz := Lib.hid (box_set2 hr (.int .i64 lo) (.int .i64 hi))
          have kb := Lib.hid (below_set2 hbw (Nat.le_of_eq hg2.out) (.int .i64 lo) (.int .i64 hi))
          clear y0 y1 f0 f1
          generalize (w5.setCell ⟨g2, 0, none⟩ (.int .i64 lo)).setCell ⟨g2, 1, none⟩ (.int .i64 hi) = W9 at *
          have z0 : W9.cell? ⟨g2, 0, none⟩ = some (.int .i64 lo) := kz.out.cell 0
          have z1 : W9.cell? ⟨g2, 1, none⟩ = some (.int .i64 hi) := kz.out.cell 1
          refine bodyPost_ret (v := .tuple #[.agg #[.int .i64 lo, .int .i64 hi], .int .i64 0]) (by simp [results, Tryz.results18, go_sem, z0, z1]) rfl ?_
          exact bver_ok hok.out (by rw [hd4e.out]; exact hlo'.out) (by rw [hd4e.out]; exact hhi'.out) rfl kb.out
 · have in0 : ¬ ((n.length : Int) = 32) := by omega
   have hbad : Hid (bverC p n b = 3) := by show _ = _; rw [bverC, if_neg hn]
   clear hu hu2 hu3 hn
   go_enter Tryz.func18, Tryz.ntmps18
   go_wp2_with fail
   go_returns
   exact bver_bad hbad.out (by decide) rfl (by go_grown)
theorem all32_take (ls : List Bs) (k : Nat) (l : Bs) (h : ls[k]? = some l) : all32 (ls.take (k + 1)) = (all32 (ls.take k) && decide (l.length = 32)) := by
 rw [take_one ls k l h]
 unfold all32
 rw [List.all_append]
 simp
theorem all32_each {ls : List Bs} (h : all32 ls = true) : ∀ l ∈ ls, l.length = 32 := by
 intro l hl
 unfold all32 at h
 rw [List.all_eq_true] at h
 simpa using h l hl
theorem partG_len (ns : List Bs) (lo hi : Int) : (partG ns lo hi).length ≤ 2048 := by
 unfold partG encT
 split
 · rename_i h
   unfold encC at h
   split at h
   · omega
   split at h
   · split at h
     · omega
     · omega
   · omega
 · simp
theorem pb16 (f t : Int) : (spanB f t).length = 16 := by simp [spanB, putB_len]
theorem ansL_next (ns : List Bs) (S part : Bs) (k : Nat) : ansL ns S part (k + 1) = ansL ns S part k ++ [ansB ns S part k] := by
 rw [ansL, ansL, List.range_succ, List.map_append]; rfl
theorem ansL_len (ns : List Bs) (S part : Bs) (k : Nat) : (ansL ns S part k).length = k := by simp [ansL]
theorem ansL_get (ns : List Bs) (S part : Bs) (k i : Nat) (h : i < k) : (ansL ns S part k).getD i [] = ansB ns S part i := by
 rw [List.getD_eq_getElem?_getD, ansL, List.getElem?_map, List.getElem?_range h]; rfl
theorem pathF_len (ns : List Bs) (i : Nat) : (pathG (ns.map leafH) i).length ≤ ns.length ∧ (∀ x ∈ pathG (ns.map leafH) i, x.length = 32) ∧ (pathG (ns.map leafH) i).flatten.length = 32 * (pathG (ns.map leafH) i).length := by
 have h1 := pathG_short (ns.map leafH) i
 rw [List.length_map] at h1
 have h2 : ∀ x ∈ pathG (ns.map leafH) i, x.length = 32 := pathG_el _ _ _ (Nat.le_refl _) (leafs_len ns)
 exact ⟨h1, h2, by rw [flat_len 32 _ h2, Nat.mul_comm]⟩
def AnswerP (r : (Bs × Int × Int) × List Bs × Int) (w : World) (e : Ending) (w' : World) : Prop :=
 ∃ v1 v2, e = .returned (.tuple #[.agg #[v1, .int .i64 r.1.2.1, .int .i64 r.1.2.2], v2, .int .i64 r.2.2]) ∧ Elt w' v2 v1 r.1.1 ∧ OwnL w' w.heap.size v2 r.2.1 ∧ Below w.heap.size w w'
theorem answer_bad {r : (Bs × Int × Int) × List Bs × Int} {c : Int} (h : r = (([], 0, 0), [], c)) {w w' : World} (hb : Below w.heap.size w w') : AnswerP r w (.returned (.tuple #[.agg #[.slice none 0 0, .int .i64 0, .int .i64 0], .slice none 0 0, .int .i64 c])) w' := by
 subst h
 exact ⟨_, _, rfl, ⟨SeesB.nil _ _, fun h => absurd rfl h⟩, OwnL.nil _ _, hb⟩
theorem answer_ok {r : (Bs × Int × Int) × List Bs × Int} {rs : Bs} {rh rn : Int} {ls : List Bs} (h : r = ((rs, rh, rn), ls, 0)) {w W : World} {base : Nat} {v1 v2 : Value} (t1 : SeesB W W.heap.size v1 rs) (ta : rs ≠ [] → ∀ k, v1.ownBlock = some k → v2.ownBlock ≠ some k) (t2 : OwnL W base v2 ls) (hbase : w.heap.size ≤ base) (hb : Below w.heap.size w W) : AnswerP r w (.returned (.tuple #[.agg #[v1, .int .i64 rh, .int .i64 rn], v2, .int .i64 0])) W := by
 subst h
 exact ⟨_, _, rfl, ⟨t1, ta⟩, t2.mono hbase, hb⟩
theorem bchk_zero {sd : Bs} {h n : Int} {ns : List Bs} {lo hi : Int} (hc : bchkC sd h n ns lo hi = 0) : validI sd h n = true ∧ 1 ≤ ns.length ∧ ns.length ≤ 16 ∧ vS lo hi = true ∧ ∀ l ∈ ns, l.length = 32 := by
 unfold bchkC at hc
 split at hc
 · rename_i h1
   split at hc
   · omega
   · rename_i h2
     split at hc
     · rename_i h3
       rw [Bool.and_eq_true] at h3
       exact ⟨h1, by omega, by omega, h3.1, all32_each h3.2⟩
     · omega
 · omega
theorem sign_sig {sd : Bs} {h n : Int} {m : Bs} (hv : validI sd h n = true) (h0 : (signAll sd h n m).2.2.2.2 = 0) : ∃ k i : Nat, h = (k : Int) ∧ n = (i : Int) ∧ k ≤ 6 ∧ i < 2 ^ k ∧ sd.length = 32 ∧ signAll sd h n m = (sd, h, n + 1, sigG sd k i m, 0) := by
 have hh : sd.length = 32 ∧ 0 ≤ h ∧ h ≤ 6 ∧ 0 ≤ n ∧ n ≤ 2 ^ h.toNat := by simp [validI] at hv; omega
 obtain ⟨hl, h0', h1, h2, h3⟩ := hh
 obtain ⟨k, rfl⟩ := Int.eq_ofNat_of_zero_le h0'
 obtain ⟨i, rfl⟩ := Int.eq_ofNat_of_zero_le h2
 rw [Int.toNat_natCast] at h3
 have hpc : ((2 ^ k : Nat) : Int) = (2 : Int) ^ k := by simp
 by_cases hn : (i : Int) = 2 ^ k
 · have : signAll sd k i m = ([], 0, 0, [], 7) := by
    rw [signAll, if_pos hv, if_pos (by rw [Int.toNat_natCast]; exact hn)]
   rw [this] at h0
   simp at h0
 · have : signAll sd k i m = (sd, (k : Int), (i : Int) + 1, sigG sd k i m, 0) := by simp [signAll, hv, hn]
   exact ⟨k, i, rfl, rfl, by omega, by omega, hl, this⟩
theorem answer_first {sd : Bs} {h : Int} {ns : List Bs} {lo hi : Int} (hl : sd.length = 32) (h0 : 0 ≤ h) (h1 : h ≤ 6) (n1 : 1 ≤ ns.length) (n2 : ns.length ≤ 16) (hn : ∀ l ∈ ns, l.length = 32) (hv : vS lo hi = true) :
 answerR sd h 0 ns lo hi = ((sd, h, 1), ansL ns (sigG sd h.toNat 0 (tBatch ++ partG ns lo hi)) (partG ns lo hi) ns.length, 0) := by
 have hV : validI sd h 0 = true := by
  obtain ⟨k, rfl⟩ := Int.eq_ofNat_of_zero_le h0
  exact validI_mk sd k 0 hl (by omega) (Nat.zero_le _)
 have ha : all32 ns = true := by
  unfold all32
  rw [List.all_eq_true]
  intro l hl
  simp [hn l hl]
 have hc : bchkC sd h 0 ns lo hi = 0 := by
  unfold bchkC
  rw [if_pos hV, if_neg (by omega), hv, ha]
  rfl
 have hs : ∀ m, signAll sd h 0 m = (sd, h, 1, sigG sd h.toNat 0 m, 0) := fun m => by
  unfold signAll
  have hp : (1 : Int) ≤ 2 ^ h.toNat := by
   have h9 : 0 < 2 ^ h.toNat := Nat.pos_of_ne_zero (by simp)
   have : ((2 ^ h.toNat : Nat) : Int) = (2 : Int) ^ h.toNat := by simp
   omega
  rw [if_pos hV, if_neg (by omega)]
  rfl
 rw [answerR, if_pos hc, hs]
 rfl
set_option linter.unusedSimpArgs false
def SgnR (w8 : World) (rs : Bs) (rh rn : Int) (rg : Bs) (rc : Int) (v12 v13 v14 : Value) (W : World) : Prop :=
 ∃ g A1 k1 A2 k2, v12 = .pointer (some ⟨g, 0, none⟩) ∧ v13 = .slice A2 rg.length k2 ∧ v14 = .int .i64 rc ∧ Box W g 27 [.slice A1 rs.length k1, .int .i64 rh, .int .i64 rn] ∧ SeesB W W.heap.size (.slice A1 rs.length k1) rs ∧ SeesB W W.heap.size (.slice A2 rg.length k2) rg ∧ w8.heap.size ≤ g ∧ Below w8.heap.size w8 W
theorem sgn_new (w8 w10 : World) (rs : Bs) (rh rn : Int) (rg : Bs) (rc : Int) (A1 : Option Addr) (k1 : Nat) (A2 : Option Addr) (k2 : Nat) (t1 : SeesB w10 w10.heap.size (.slice A1 rs.length k1) rs) (t2 : SeesB w10 w10.heap.size (.slice A2 rg.length k2) rg) (hb : Below w8.heap.size w8 w10) :
 SgnR w8 rs rh rn rg rc (.pointer (some ⟨w10.heap.size, 0, none⟩)) (.slice A2 rg.length k2) (.int .i64 rc) (w10.alloc (.cells #[.slice A1 rs.length k1, .int .i64 rh, .int .i64 rn] 27)) :=
 ⟨_, A1, k1, A2, k2, rfl, rfl, rfl, Box.new w10 27 [.slice A1 rs.length k1, .int .i64 rh, .int .i64 rn], seesB_of t1 (Nat.le_refl _) (balloc w10 _), seesB_of t2 (Nat.le_refl _) (balloc w10 _), hb.size, bgo hb (balloc _ _)⟩
theorem sgn_set (w8 w10 : World) (rs : Bs) (rh rn : Int) (rg : Bs) (rc : Int) (A1 : Option Addr) (k1 : Nat) (A2 : Option Addr) (k2 g : Nat) (bz : Box w10 g 27 [.slice none 0 0, .int .i64 0, .int .i64 0]) (t1 : SeesB w10 w10.heap.size (.slice A1 rs.length k1) rs) (t2 : SeesB w10 w10.heap.size (.slice A2 rg.length k2) rg) (hg : w8.heap.size ≤ g) (hb : Below w8.heap.size w8 w10) :
 SgnR w8 rs rh rn rg rc (.pointer (some ⟨g, 0, none⟩)) (.slice A2 rg.length k2) (.int .i64 rc) (((w10.setCell ⟨g, 0, none⟩ (.slice A1 rs.length k1)).setCell ⟨g, 1, none⟩ (.int .i64 rh)).setCell ⟨g, 2, none⟩ (.int .i64 rn)) := by
 have y := ((bz.set 0 (.slice A1 rs.length k1)).set 1 (.int .i64 rh)).set 2 (.int .i64 rn)
 simp only [List.set_cons_zero, List.set_cons_succ] at y
 have hgr := ggo (ggo (setCell_grown w10 g 0 (.slice A1 rs.length k1)) (setCell_grown _ g 1 (.int .i64 rh))) (setCell_grown _ g 2 (.int .i64 rn))
 have hz : (((w10.setCell ⟨g, 0, none⟩ (.slice A1 rs.length k1)).setCell ⟨g, 1, none⟩ (.int .i64 rh)).setCell ⟨g, 2, none⟩ (.int .i64 rn)).heap.size = w10.heap.size := by simp [World.setCell]
 exact ⟨g, A1, k1, A2, k2, rfl, rfl, rfl, y, by rw [hz]; exact t1.over (Nat.le_refl _) bz (noBL3' (NoB.s _ _ _) (NoB.i _) (NoB.i _)) hgr, by rw [hz]; exact t2.over (Nat.le_refl _) bz (noBL3' (NoB.s _ _ _) (NoB.i _) (NoB.i _)) hgr, hg, below_set3 hb hg _ _ _⟩
set_option linter.unusedSimpArgs false
def KSignP (ht : Int) (w : World) (e : Ending) (w' : World) : Prop :=
 ∃ v1 v2 sd pk, e = .returned (.tuple #[.agg #[v1, .int .i64 (ht % 2), .int .i64 0], v2]) ∧ SeesB w' w'.heap.size v1 sd ∧ sd.length = 32 ∧ SeesB w' w'.heap.size v2 pk ∧ pk = pubG sd (ht % 2) ∧ pk.length = 32 ∧ Below w.heap.size w w'
set_option maxRecDepth 100000 in
set_option maxHeartbeats 1000000 in
theorem ksigner_any (v ht : Int) (w : World) : Calls Tryz.prog 13 #[.int .i64 v, .int .i64 ht] w (KSignP ht w) := by
 have hkr := fun x W => (show Calls Tryz.prog 59 #[.int .i64 x, .int .i64 32] W (Shows (randK x 32) W) from krandom_any x 32 (by omega) W)
 have hwi := fun W => kwithin_any ht 2 (by omega) (by omega) W
 have b1 := balloc w (.cells #[.slice none 0 0, .int .i64 0, .int .i64 0] 27)
 have h4 := Box.new w 27 [.slice none 0 0, .int .i64 0, .int .i64 0]
 have hm0 := Int.emod_nonneg ht (show (2 : Int) ≠ 0 by omega)
 have hm1 := Int.emod_lt_of_pos ht (show (0 : Int) < 2 by omega)
 replace hkr := Lib.hid hkr
 replace hwi := Lib.hid hwi
 replace b1 := Lib.hid b1
 have hm0' := Lib.hid hm0
 have hm1' := Lib.hid hm1
 clear hm0 hm1
 go_enter Tryz.func13, Tryz.ntmps13
 go_wp2_with fail
 change Box (w.alloc (.cells #[.slice none 0 0, .int .i64 0, .int .i64 0] 27)) _ _ _ at h4
 generalize w.alloc (.cells #[.slice none 0 0, .int .i64 0, .int .i64 0] 27) = W1 at *
 generalize hg : w.heap.size = g4 at h4 ⊢
 replace hg := Lib.hid hg
 refine (hkr.out _ _).mono ?_
 rintro e w2 ⟨v2, rfl, t2, hb2, -⟩
 have hl := randK_len (wrap64 (v + 100)) 32 (by omega)
 obtain ⟨A2, c2, rfl, -, -⟩ := t2.mk_
 replace h4 := Lib.hid (h4.below hb2)
 replace b1 := Lib.hid (bgo b1.out hb2)
 replace hl := Lib.hid hl
 generalize randK _ 32 = sd at *
 dsimp only
 go_wp2_with fail
 refine (hwi.out _).mono ?_
 rintro e w3 ⟨rfl, rfl⟩
 generalize hH : ht % 2 = H at *
 replace hH := Lib.hid hH
 dsimp only
 have hal := balloc w3 (.cells #[.slice A2 sd.length c2, .int .i64 H, .int .i64 0] 27)
 have h6 := Box.new w3 27 [.slice A2 sd.length c2, .int .i64 H, .int .i64 0]
 change Box (w3.alloc (.cells #[.slice A2 sd.length c2, .int .i64 H, .int .i64 0] 27)) _ _ _ at h6
 go_upto_region 2 with (fail)
 have t6 := seesB_of t2 (Nat.le_refl _) hal
 replace h4 := Lib.hid (h4.out.below hal)
 replace b1 := Lib.hid (bgo b1.out hal)
 generalize w3.alloc (.cells #[.slice A2 sd.length c2, .int .i64 H, .int .i64 0] 27) = W6 at *
 generalize w3.heap.size = g6 at *
 have c0 := h6.cell 0
 have c1 := h6.cell 1
 simp only [List.getElem?_cons_zero, List.getElem?_cons_succ] at c0 c1
 have hpu := Lib.hid (rpublic_any W6.heap.size _ sd H W6 t6 (Nat.le_refl _))
 clear t2 hal hkr hwi
 go_wp2_with fail
 refine hpu.out.mono ?_
 rintro e w7 ⟨vp, rfl, tp, hb7⟩
 obtain ⟨Ap, cp, rfl, -, -⟩ := tp.mk_
 have h67 := h6.below hb7
 have h47 := h4.out.below hb7
 have t7 := seesB_of t6 (Nat.le_refl _) hb7
 have b7 := Lib.hid (bgo b1.out hb7)
 have hlp : Hid ((pubG sd H).length = 32) := by
  show _ = _
  have hl' : sd.length = 32 := hl.out
  rw [pubG, if_pos (by have := hm0'.out; have := hm1'.out; omega)]
  exact keyG_len _ _
 have hl' : Hid (sd.length = 32) := hl.out
 have hpg : Hid (pubG sd H = pubG sd H) := rfl
 generalize hpk : pubG sd H = pk at tp hlp ⊢
 replace hpk := Lib.hid hpk
 have d0 := h67.cell 0
 have d1 := h67.cell 1
 have d2 := h67.cell 2
 have y0 := h47.cell 0
 have y1 := h47.cell 1
 have y2 := h47.cell 2
 simp only [List.getElem?_cons_zero, List.getElem?_cons_succ] at d0 d1 d2 y0 y1 y2
 have f0 := h47.frozen 0
 have f1 := h47.frozen 1
 have f2 := h47.frozen 2
 have n47 := noBL3' (NoB.s none 0 0) (NoB.i 0) (NoB.i 0)
 have hgr := ggo (ggo (setCell_grown w7 g4 0 (.slice A2 sd.length c2)) (setCell_grown _ g4 1 (.int .i64 H))) (setCell_grown _ g4 2 (.int .i64 0))
 have hz : (((w7.setCell ⟨g4, 0, none⟩ (.slice A2 sd.length c2)).setCell ⟨g4, 1, none⟩ (.int .i64 H)).setCell ⟨g4, 2, none⟩ (.int .i64 0)).heap.size = w7.heap.size := by simp [World.setCell]
 have kt := t7.over (Nat.le_refl _) h47 n47 hgr
 have kp := tp.over (Nat.le_refl _) h47 n47 hgr
 have k4 := ((h47.set 0 (.slice A2 sd.length c2)).set 1 (.int .i64 H)).set 2 (.int .i64 0)
 simp only [List.set_cons_zero, List.set_cons_succ] at k4
 rw [← hz] at kt kp
 replace kt := Lib.hid kt
 replace kp := Lib.hid kp
 replace k4 := Lib.hid k4
 have kb := Lib.hid (below_set3 b7.out (Nat.le_of_eq hg.out) (.slice A2 sd.length c2) (.int .i64 H) (.int .i64 0))
 clear hl hgr hz h47 h67 h6 h4 tp t7 t6 c0 c1 b1 hpu
 dsimp only
 go_wp2_with fail
 clear d0 d1 d2 y0 y1 y2 f0 f1 f2
 generalize ((w7.setCell ⟨g4, 0, none⟩ (.slice A2 sd.length c2)).setCell ⟨g4, 1, none⟩ (.int .i64 H)).setCell ⟨g4, 2, none⟩ (.int .i64 0) = W9 at *
 have z0 : W9.cell? ⟨g4, 0, none⟩ = some (.slice A2 sd.length c2) := k4.out.cell 0
 have z1 : W9.cell? ⟨g4, 1, none⟩ = some (.int .i64 H) := k4.out.cell 1
 have z2 : W9.cell? ⟨g4, 2, none⟩ = some (.int .i64 0) := k4.out.cell 2
 refine bodyPost_ret (v := .tuple #[.agg #[.slice A2 sd.length c2, .int .i64 H, .int .i64 0], .slice Ap pk.length cp]) (by simp [results, Tryz.results13, go_sem, z0, z1, z2]) rfl ?_
 exact ⟨_, _, sd, pk, by rw [hH.out], kt.out, hl'.out, kp.out, by rw [hH.out]; exact hpk.out.symm, hlp.out, kb.out⟩
set_option linter.unusedSimpArgs false
theorem box_set3 {W : World} {g : Nat} {T : TypeId} {a b c : Value} (h : Box W g T [a, b, c]) (x y z : Value) : Box (((W.setCell ⟨g, 0, none⟩ x).setCell ⟨g, 1, none⟩ y).setCell ⟨g, 2, none⟩ z) g T [x, y, z] := by
 have k := ((h.set 0 x).set 1 y).set 2 z
 simpa only [List.set_cons_zero, List.set_cons_succ] using k
theorem sees_set3 {W : World} {g : Nat} {T : TypeId} {a b c u : Value} {l : Bs} (h : Box W g T [a, b, c]) (n : NoByte [a, b, c]) (x y z : Value) (hs : SeesB W W.heap.size u l) : SeesB (((W.setCell ⟨g, 0, none⟩ x).setCell ⟨g, 1, none⟩ y).setCell ⟨g, 2, none⟩ z) (((W.setCell ⟨g, 0, none⟩ x).setCell ⟨g, 1, none⟩ y).setCell ⟨g, 2, none⟩ z).heap.size u l := by
 have hz : (((W.setCell ⟨g, 0, none⟩ x).setCell ⟨g, 1, none⟩ y).setCell ⟨g, 2, none⟩ z).heap.size = W.heap.size := by simp [World.setCell]
 rw [hz]
 exact hs.over (Nat.le_refl _) h n (ggo (ggo (setCell_grown W g 0 x) (setCell_grown _ g 1 y)) (setCell_grown _ g 2 z))
theorem own_set3 {W : World} {g base : Nat} {T : TypeId} {a b c u : Value} {ls : List Bs} (h : Box W g T [a, b, c]) (hg : g < base) (ha : NoB a) (hb : NoB b) (hc : NoB c) (x y z : Value) (hx : NoB x) (hy : NoB y) (hs : OwnL W base u ls) : OwnL (((W.setCell ⟨g, 0, none⟩ x).setCell ⟨g, 1, none⟩ y).setCell ⟨g, 2, none⟩ z) base u ls := by
 have h1 := h.set 0 x
 have h2 := h1.set 1 y
 simp only [List.set_cons_zero, List.set_cons_succ] at h1 h2
 exact ((hs.poke hg h (noBL3' ha hb hc)).poke hg h1 (noBL3' hx hb hc)).poke hg h2 (noBL3' hx hy hc)
theorem lit13_mid (W : World) (o : Obj) (C : Array Value) (n c : Nat) (hC : C.size = n) : (convert 25 25 (.slice (some ⟨W.heap.size, 0, none⟩) n c)).run Tryz.prog ((W.alloc (.cells C 5)).alloc o) = .ok (.slice (some ⟨W.heap.size, 0, none⟩) n c) ((W.alloc (.cells C 5 (n, n + 1))).alloc o) := by
 have hsh : ((W.alloc (.cells C 5)).alloc o).shape? W.heap.size = some (5, C.size) := by
  have : ((W.alloc (.cells C 5)).alloc o).heap[W.heap.size]? = some (.cells C 5) := by
   show ((W.heap.push (.cells C 5)).push o)[W.heap.size]? = _
   rw [Array.getElem?_push, Array.getElem?_push]
   simp
  unfold World.shape?
  rw [this]
 have hfr : ∀ (k : Nat), ((W.alloc (.cells C 5)).alloc o).freeze ⟨W.heap.size, k, none⟩ 1 = (W.alloc (.cells C 5 (k, k + 1))).alloc o := fun k => by
  have hm : ∀ (a : Array Obj) (x y : Obj) (f : Obj → Obj), ((a.push x).push y).modify a.size f = (a.push (f x)).push y := by
   intro a x y f
   apply Array.ext
   · simp
   · intro i h1 h2
     simp only [Array.getElem_modify, Array.getElem_push, Array.size_push]
     by_cases h : a.size = i
     · subst h
       simp
     · by_cases h3 : i < a.size
       · have h4 : i < a.size + 1 := by omega
         simp [h, h3, h4]
       · have h4 : ¬ i < a.size + 1 := by omega
         simp [h, h3, h4]
  unfold World.freeze
  rw [if_neg (by decide)]
  show ({ (W.alloc (.cells C 5)).alloc o with heap := ((W.heap.push (.cells C 5)).push o).modify W.heap.size _ } : World) = _
  rw [hm]
  rfl
 subst hC
 simp [convert, run_underlying Tryz.underlying25, run_underlying Tryz.underlying5, markStringish, hsh]
 exact hfr _
theorem lit13_runJ (W : World) (G : Nat) (hG : G = W.heap.size) : (convert 25 25 (.slice (some ⟨G, 0, none⟩) 13 13)).run Tryz.prog (W.alloc (.cells #[.int .u8 115, .int .u8 101, .int .u8 99, .int .u8 116, .int .u8 105, .int .u8 109, .int .u8 101, .int .u8 32, .int .u8 98, .int .u8 97, .int .u8 116, .int .u8 99, .int .u8 104] 5)) = .ok (.slice (some ⟨G, 0, none⟩) 13 13) (W.alloc (.cells #[.int .u8 115, .int .u8 101, .int .u8 99, .int .u8 116, .int .u8 105, .int .u8 109, .int .u8 101, .int .u8 32, .int .u8 98, .int .u8 97, .int .u8 116, .int .u8 99, .int .u8 104] 5 (13, 14))) := by
 subst hG
 exact Lib.run_convert_bytes_const W 25 5 #[.int .u8 115, .int .u8 101, .int .u8 99, .int .u8 116, .int .u8 105, .int .u8 109, .int .u8 101, .int .u8 32, .int .u8 98, .int .u8 97, .int .u8 116, .int .u8 99, .int .u8 104] 13 13 Tryz.underlying25 Tryz.underlying5
section
variable {w w' : World} {B base : Nat} {u v : Value} {l : Bs} {ls : List Bs}
theorem OwnL.made (w : World) (n : Nat) (hn : n ≤ maxLen) : OwnL (w.alloc (.cells (Array.replicate n (Value.slice none 0 0)) 25)) w.heap.size (.slice (some ⟨w.heap.size, 0, none⟩) n n) (List.replicate n []) := by
 rw [← List.toArray_replicate]
 refine ⟨List.replicate n (Value.slice none 0 0), by rw [List.length_replicate]; exact World.ownsRow_lit (base := w.heap.size) (size := 1) w (List.replicate n (Value.slice none 0 0)).toArray n (Nat.le_refl _) hn (by simp), fun k hk => ?_⟩
 rw [List.length_replicate] at hk
 refine ⟨.slice none 0 0, by simp [hk], ?_⟩
 rw [List.getD_eq_getElem?_getD, List.getElem?_replicate, if_pos hk]
 exact ⟨SeesB.nil _ _, fun h => absurd rfl h⟩
end
theorem make_lists (T : TypeId) (hT : Tryz.prog.underlying T = some (.slice 25)) (n : Nat) (hn : n ≤ 1048576) (w : World) : (Instr.makeSlice T (.int .i64 (n : Int)) (.int .i64 (n : Int))).run Tryz.prog w = .ok (.slice (some ⟨w.heap.size, 0, none⟩) n n) (w.alloc (.cells (List.replicate n (Value.slice none 0 0)).toArray 25)) := by
 obtain ⟨i, hi, hz, hs, hb⟩ := info_parts slice_info
 have h := run_make (P := Tryz.prog) w T 25 i (.slice none 0 0) hT hi hz .i64 .i64 n n (by omega) (by omega) (by rw [hb]; omega) (by omega)
 rw [h, hs]
 simp only [Int.toNat_natCast, Nat.mul_one]
 rw [← toList_madeCells_one]
 rfl
theorem otvalid_any (B : Nat) (u : Value) (seed : Bs) (i : Int) (w : World) (hu : SeesB w B u seed) :
 Calls Tryz.prog 204 #[u, .int .i64 i] w fun e w' => e = .returned (.int .i64 (otC seed i)) ∧ w' = w := by
 obtain ⟨A, c, rfl, hc1, hc2⟩ := hu.mk_
 clear hu
 by_cases hl : seed.length = 32
 · rw [hl]
   by_cases h0 : i < 0
   · go_enter Tryz.func204, Tryz.ntmps204
     go_wp2
     go_ret
     exact ⟨ret_int (by simp [otC, hl, h0]), rfl⟩
   · by_cases h1 : 2147483647 < i
     · go_enter Tryz.func204, Tryz.ntmps204
       go_wp2
       go_ret
       exact ⟨ret_int (by simp [otC, hl, h1]), rfl⟩
     · go_enter Tryz.func204, Tryz.ntmps204
       go_wp2
       go_ret
       exact ⟨ret_int (by simp [otC, hl]; omega), rfl⟩
 · have hl2 : ¬ ((seed.length : Int) = 32) := by omega
   go_enter Tryz.func204, Tryz.ntmps204
   go_wp2
   go_ret
   exact ⟨ret_int (by simp [otC, hl]), rfl⟩
set_option maxRecDepth 100000 in
theorem begin_any (B : Nat) (u : Value) (seed : Bs) (i k : Nat) (w : World) (hu : SeesB w B u seed) (hB : B ≤ w.heap.size) (hl : seed.length ≤ 100000) (hi : i ≤ 2147483647) (hk : k < 256) :
 Calls Tryz.prog 207 #[u, .int .i64 (i : Int), .int .i64 (k : Int)] w (Shows (otBegin seed i k) w) := by
 obtain ⟨A, c, rfl, hc1, hc2⟩ := hu.mk_
 have m0 : IntKind.u64.wrap (i : Int) = (i : Int) := by rw [IntKind.wrap_u64]; omega
 have m1 : IntKind.u8.wrap (k : Int) = (k : Int) := by rw [IntKind.wrap_u8]; omega
 have hx : ((UInt8.ofNat k).toNat : Int) = (k : Int) := by simp; omega
 have hp := Lib.hid (put4_any i (by omega) w)
 replace hu := Lib.hid hu
 replace hx := Lib.hid hx
 go_enter Tryz.func207, Tryz.ntmps207
 go_wp2_with fail
 refine hp.out.mono ?_
 rintro e w1 ⟨v1, rfl, h1, hb1⟩
 obtain ⟨A1, c1, rfl, -, -⟩ := h1.sees.mk_
 dsimp only
 go_wp2_with fail
 have hb2 := balloc w1 (.cells #[.int .u8 (k : Int)] 5)
 have h2 := one_byte w1 (UInt8.ofNat k) k hx.out
 have hw2 := bgo hb1 hb2
 have hu2 := hu.out.below (hw2.mono hB)
 have h12 := h1.below hb2
 have hsz1 : (w1.alloc (.cells #[.int .u8 (k : Int)] 5)).heap.size = w1.heap.size + 1 := World.size_alloc _ _
 rw [← hsz1]
 generalize w1.alloc (.cells #[.int .u8 (k : Int)] 5) = w2 at *
 generalize w1.heap.size = g1 at *
 have hl3 := seesL_lit w2 25 (show SeesAll w2 w2.heap.size [.slice A seed.length c, .slice A1 (putB 4 i).length c1, .slice (some ⟨g1, 0, none⟩) 1 1] [seed, putB 4 i, [UInt8.ofNat k]] from ⟨hu2.more (Nat.le_trans hB hw2.size), h12.sees, h2.sees, trivial⟩) (by simp [maxLen])
 have hp4 := putB_len 4 i
 have hfl : [seed, putB 4 i, [UInt8.ofNat k]].flatten = seed ++ putB 4 i ++ [UInt8.ofNat k] := by simp
 refine (join_any _ _ _ _ hl3 (Nat.le_refl _) (by rw [hfl]; simp [hp4]; omega)).mono ?_
 rintro e w3 ⟨v3, rfl, h3, hb3⟩
 rw [hfl] at h3
 have hw3 := bgo (bgo hw2 (balloc w2 _)) hb3
 dsimp only
 go_wp2_with fail
 refine (short_any _ _ _ _ h3.sees (Nat.le_refl _) (by simp [hp4]; omega)).mono ?_
 rintro e w4 ⟨v4, rfl, h4, hb4, hf4⟩
 dsimp only
 go_wp2_with fail
 go_ret
 exact ⟨v4, rfl, h4, bgo hw3 hb4, hf4.mono hw3.size⟩
set_option maxRecDepth 100000 in
theorem otpublic_any (B : Nat) (u : Value) (seed : Bs) (i : Int) (w : World) (hu : SeesB w B u seed) (hB : B ≤ w.heap.size) :
 Calls Tryz.prog 203 #[u, .int .i64 i] w (PubPost seed i w) := by
 obtain ⟨A, c, rfl, hc1, hc2⟩ := hu.mk_
 have hv := otvalid_any B _ seed i w hu
 by_cases h0 : otC seed i = 0
 · have hpl : Hid (pubL seed i = otPublic seed i.toNat) := by show _ = _; rw [pubL, if_pos h0]
   obtain ⟨hl, i0, i1⟩ := otC_ok h0
   have hoc := Lib.hid h0
   rw [h0] at hv
   obtain ⟨n, rfl⟩ := Int.eq_ofNat_of_zero_le i0
   rw [Int.toNat_natCast] at hpl
   rw [hl] at hc1 hu hv ⊢
   replace hu := Lib.hid hu
   replace hv := Lib.hid hv
   have hl' := Lib.hid hl
   clear h0 i0 hl
   have hmk := make_560
   go_enter Tryz.func203, Tryz.ntmps203
   go_wp2_with fail
   refine hv.out.mono ?_
   rintro e w0 ⟨rfl, rfl⟩
   dsimp only
   go_wp2_with fail
   refine wp_fresh (fun W => OwnB W w0.heap.size (.slice (some ⟨w0.heap.size, 0, none⟩) 0 560) [] ∧ Below w0.heap.size w0 W) ⟨World.ownsRow_made w0 _ 560 (Nat.le_refl _) (by unfold maxLen; omega) (size_madeCells _ _), (Below.refl _ _).alloc (Nat.le_refl _) _⟩ ?_
   rintro W1 ⟨ho, hb⟩
   replace ho := Lib.hid ho
   replace hb := Lib.hid hb
   clear hmk hv
   go_loopw [7, 8, 16] (fun r _ t wr => ∃ k : Nat, k ≤ 35 ∧ t = .int .i64 k ∧ Hid (OwnB wr w0.heap.size r (otEnds seed n k)) ∧ Hid (Below w0.heap.size w0 wr)) (fun _ _ t _ => 35 - (intOf t).toNat)
   case atStart => exact ⟨0, by omega, rfl, ho, hb⟩
   case round =>
    clear ho hb
    obtain ⟨k, hk, rfl, ho, hb⟩ := hrel
    by_cases hlt : k < 35
    · have i0 : (k : Int) < 35 := by omega
      have hst : Hid (otEnds seed n (k + 1) = otEnds seed n k ++ chainH 15 (otBegin seed n k)) := rfl
      have hlen := otEnds_len seed n k
      have hlc := chainH_len 15 (otBegin seed n k) (short_len _)
      have hlb : (otBegin seed n k).length = 16 := short_len _
      have hbg := Lib.hid (begin_any B _ seed n k wr (hu.out.below (hb.out.mono hB)) (Nat.le_trans hB hb.out.size) (by rw [hl'.out]; omega) (by omega) (by omega))
      generalize otEnds seed n k = acc at *
      generalize otBegin seed n k = bg at *
      replace hlen := Lib.hid hlen
      replace hlc := Lib.hid hlc
      replace hlb := Lib.hid hlb
      obtain ⟨Ar, cr, rfl, -, -⟩ := ho.out.sees.mk_
      go_wp2_with fail
      refine hbg.out.mono ?_
      rintro e w2 ⟨v2, rfl, h2, hb2, hf2⟩
      have hch := chain_any _ _ _ 15 w2 h2 (Nat.le_refl _) (by rw [hlb.out]; omega)
      rw [show chainN 15 = 15 by decide] at hch
      have ho2 := ho.out.below hb2
      have hw2 := Lib.hid (bgo hb.out hb2)
      replace hch := Lib.hid hch
      dsimp only
      go_wp2_with fail
      refine hch.out.mono ?_
      rintro e w3 ⟨v3, rfl, h3, hb3, hf3⟩
      have ho3 := Lib.hid (ho2.below hb3)
      have hw3 := Lib.hid (bgo hw2.out hb3)
      have hl3 := Lib.hid (show acc.length + (chainH 15 bg).length ≤ 140737488355328 by rw [hlen.out, hlc.out]; omega)
      replace h3 := Lib.hid h3
      clear ho2 hb2 hb3 hbg hch h2 hw2 hb ho
      dsimp only
      go_wp2_with (at_builtin; refine wpList_app (by rfl) _ _ rfl w0.heap.size _ acc rfl ho3.out _ _ (chainH 15 bg) rfl h3.out hl3.out hw3.out.size ?_)
      intro v' w' hW2 hb2
      have hW2 := Lib.hid hW2
      have hb2 := Lib.hid hb2
      go_wp2_with fail
      go_roundw
      case rel => exact ⟨k + 1, by omega, by go_num, by rw [hst.out]; exact hW2.out, hw3.out.trans hb2.out⟩
      case measure => simp [intOf]; omega
    · have hk35 : k = 35 := by omega
      rw [hk35] at ho
      have hsh := short_any _ _ _ _ ho.out.sees (Nat.le_refl _) (by rw [otEnds_len]; omega)
      replace hsh := Lib.hid hsh
      replace hk35 := Lib.hid hk35
      go_wp2_with fail
      refine hsh.out.mono ?_
      rintro e w2 ⟨v2, rfl, h2, hb2, hf2⟩
      dsimp only
      go_wp2_with fail
      go_returns
      exact ⟨v2, by rw [hoc.out]; rfl, by rw [hpl.out]; exact h2, bgo hb.out hb2, hf2.mono hb.out.size⟩
 · have hpl : Hid (pubL seed i = []) := by show _ = _; rw [pubL, if_neg h0]
   have hoc := Lib.hid (Eq.refl (otC seed i))
   generalize hz : otC seed i = z at hv h0
   replace hv := Lib.hid hv
   replace hz := Lib.hid hz
   clear hu
   go_enter Tryz.func203, Tryz.ntmps203
   go_wp2_with fail
   refine hv.out.mono ?_
   rintro e w0 ⟨rfl, rfl⟩
   dsimp only
   go_wp2_with fail
   go_returns
   exact ⟨.slice none 0 0, by rw [hz.out]; rfl, by rw [hpl.out]; exact SeesB.nil _ _, Below.refl _ _, From.nil _⟩
theorem hashes_size (w : World) : (sizeOf 25).run Tryz.prog w = .ok 1 w := slice_size w
def DividePost (A : Option Addr) (n c : Nat) (w : World) (e : Ending) (w' : World) : Prop :=
 e = .returned (.tuple #[.slice A (splitN n) c, .slice (cutA A c (splitN n) 1) (n - splitN n) (c - splitN n)]) ∧ ∃ k, w' = w.drewN k
set_option maxRecDepth 100000 in
theorem divide_any (A : Option Addr) (n c : Nat) (w : World) (h2 : 2 ≤ n) (hn : n ≤ 1024) (hc : n ≤ c) (hm : c ≤ maxLen) :
 Calls Tryz.prog 214 #[.slice A n c] w (DividePost A n c w) := by
 obtain ⟨k1, k2, k3⟩ := splitN_lt n h2
 have hh := Lib.hid (half_any n w h2 hn)
 unfold DividePost
 generalize splitN n = k at *
 have r2 := run_cut_from (P := Tryz.prog) 195 Tryz.underlying195 1 hashes_size A n c .i64 (k : Int) (by omega) (by omega)
 rw [Int.toNat_natCast] at r2
 generalize cutA A c k 1 = A2 at r2 ⊢
 have j0 : (0 : Int) ≤ (k : Int) := by omega
 have j1 : (k : Int) ≤ (c : Int) := by omega
 have j2 : (k : Int) ≤ (n : Int) := by omega
 go_enter Tryz.func214, Tryz.ntmps214
 go_wp2_with fail
 refine hh.out.mono ?_
 rintro e w0 ⟨rfl, rfl⟩
 dsimp only
 go_wp2_with fail
 go_quiet (fail)
 go_wp2_with fail
 go_returns
 exact ⟨rfl, _, rfl⟩
set_option maxRecDepth 100000 in
theorem root_any (m : Nat) : ∀ (ls : List Bs) (B : Nat) (u : Value) (w : World), ls.length ≤ m → SeesL w B u ls → B ≤ w.heap.size → ls.length ≤ 1024 → (∀ l ∈ ls, l.length = 32) →
 Calls Tryz.prog 170 #[u] w (Gives (rootG ls) w) := by
 induction m with
 | zero =>
   intro ls B u w hm hu hB hn hl
   obtain rfl : ls = [] := List.eq_nil_of_length_eq_zero (by omega)
   obtain ⟨A, c, rfl, hc1, hc2⟩ := hu.mk_
   have hs := Lib.hid (sum_any B (.slice none 0 0) [] w (SeesB.nil _ _) hB (by simp))
   go_enter Tryz.func170, Tryz.ntmps170
   go_wp2_with fail
   refine hs.out.mono ?_
   rintro e w1 ⟨v, rfl, h1, hb1⟩
   dsimp only
   go_wp2_with fail
   go_ret
   exact ⟨v, rfl, by rw [rootG_nil]; exact h1, hb1⟩
 | succ m ih =>
   intro ls B u w hm hu hB hn hl
   by_cases h0 : ls.length ≤ m
   · exact ih ls B u w h0 hu hB hn hl
   · have hlen : ls.length = m + 1 := by omega
     by_cases hm0 : m = 0
     · subst hm0
       obtain ⟨A, c, rfl, hc1, hc2⟩ := hu.mk_
       match ls, hlen, hu, hl with
       | [x], _, hu, hl =>
         obtain ⟨b, o, rfl, hb, hcell⟩ := hu.at_ (by simp)
         obtain ⟨A', c', x0, g1, g2, hsee⟩ := hcell 0 (by simp)
         rw [Nat.add_zero] at x0
         have hs := Lib.hid (clone_any B _ _ w hsee hB (by have := hl x (by simp); simp; omega))
         clear hcell hsee hu ih hl
         simp only [List.getD_cons_zero, List.length_cons, List.length_nil] at *
         go_enter Tryz.func170, Tryz.ntmps170
         go_wp2_with fail
         refine hs.out.mono ?_
         rintro e w1 ⟨v, rfl, h1, hb1⟩
         dsimp only
         go_wp2_with fail
         go_ret
         exact ⟨v, rfl, by rw [rootG_one]; exact h1, hb1⟩
     · obtain ⟨A, c, rfl, hc1, hc2⟩ := hu.mk_
       have h2 : 2 ≤ ls.length := by omega
       obtain ⟨k1, k2, k3⟩ := splitN_lt ls.length h2
       have hdv := divide_any A ls.length c w h2 hn hc1 hc2
       unfold DividePost at hdv
       have hroot : Hid (rootG ls = nodeH (rootG (ls.take (splitN ls.length))) (rootG (ls.drop (splitN ls.length)))) := rootG_two ls h2
       generalize splitN ls.length = k at *
       obtain ⟨b, o, rfl, hbB, -⟩ := hu.at_ (by omega)
       have c1 := SeesL.cut (a := 0) (b := k) hu (by omega) (by omega)
       have c2 := SeesL.cut (a := k) (b := ls.length) hu (by omega) (Nat.le_refl _)
       rw [cutA_zero, Nat.sub_zero, Nat.sub_zero, List.drop_zero] at c1
       rw [List.take_of_length_le (by rw [List.length_drop]; omega)] at c2
       generalize cutA (some ⟨b, o, none⟩) c k 1 = A2 at hdv c2
       have l1 : ∀ x ∈ ls.take k, x.length = 32 := fun x hx => hl x (List.mem_of_mem_take hx)
       have l2 : ∀ x ∈ ls.drop k, x.length = 32 := fun x hx => hl x (List.mem_of_mem_drop hx)
       have n1 : (ls.take k).length ≤ m := by rw [List.length_take]; omega
       have n2 : (ls.drop k).length ≤ m := by rw [List.length_drop]; omega
       have g1 := Lib.hid (fun q => ih (ls.take k) B _ (w.drewN q) n1 (SeesL.below c1 (below_drewN (Below.refl B w) q)) hB (by omega) l1)
       have g2 := Lib.hid (fun (W : World) (hbW : Below w.heap.size w W) => ih (ls.drop k) B _ W n2 (SeesL.below c2 (hbW.mono hB)) (Nat.le_trans hB hbW.size) (by omega) l2)
       have q1 := rootG_len _ l1
       have q2 := rootG_len _ l2
       have j3 : ¬ ((ls.length : Int) = 0) := by omega
       have j4 : ¬ ((ls.length : Int) = 1) := by omega
       have hlm : Hid (ls.length = m + 1) := hlen
       replace hdv := Lib.hid hdv
       clear ih c1 c2 hu hlen
       go_enter Tryz.func170, Tryz.ntmps170
       go_wp2_with fail
       refine hdv.out.mono ?_
       rintro e w0 ⟨rfl, q, rfl⟩
       dsimp only
       go_wp2_with fail
       refine (g1.out q).mono ?_
       rintro e w1 ⟨v1, rfl, h1, hb1⟩
       have hb1' : Below w.heap.size w w1 := (below_drewN (Below.refl _ _) q).trans hb1
       dsimp only
       go_wp2_with fail
       refine (g2.out w1 hb1').mono ?_
       rintro e w2 ⟨v2, rfl, h2', hb2⟩
       dsimp only
       go_wp2_with fail
       refine (node_any w2.heap.size _ _ _ _ w2 (h1.below hb2).sees h2'.sees (Nat.le_refl _) (by omega) (by omega)).mono ?_
       rintro e w3 ⟨v3, rfl, h3, hb3⟩
       dsimp only
       go_wp2_with fail
       go_ret
       exact ⟨v3, rfl, by rw [hroot.out]; exact h3.mono (bgo hb1' hb2).size, bgo (bgo hb1' hb2) hb3⟩
theorem make_hashes (n : Nat) (hn : n ≤ 1048576) (w : World) : (Instr.makeSlice 195 (.int .i64 (n : Int)) (.int .i64 (n : Int))).run Tryz.prog w = .ok (.slice (some ⟨w.heap.size, 0, none⟩) n n) (w.alloc (.cells (List.replicate n (Value.slice none 0 0)).toArray 25)) := by
 obtain ⟨i, hi, hz, hs, hb⟩ := info_parts slice_info
 have h := run_make (P := Tryz.prog) w 195 25 i (.slice none 0 0) Tryz.underlying195 hi hz .i64 .i64 n n (by omega) (by omega) (by rw [hb]; omega) (by omega)
 rw [h, hs]
 simp only [Int.toNat_natCast, Nat.mul_one]
 rw [← toList_madeCells_one]
 rfl
def ShowsL (ls : List Bs) (w : World) (e : Ending) (w' : World) : Prop := ∃ v, e = .returned v ∧ SeesL w' w'.heap.size v ls ∧ Below w.heap.size w w'
set_option maxRecDepth 100000 in
theorem of_any (ls : List Bs) (B : Nat) (u : Value) (w : World) (hu : SeesL w B u ls) (hB : B ≤ w.heap.size) (hn : ls.length ≤ 1024) (hl : ∀ l ∈ ls, l.length ≤ 1048576) :
 Calls Tryz.prog 143 #[u] w (ShowsL (ls.map leafH) w) := by
 obtain ⟨A, c, rfl, hc1, hc2⟩ := hu.mk_
 have hmk := make_hashes ls.length (by omega)
 replace hu := Lib.hid hu
 go_enter Tryz.func143, Tryz.ntmps143
 go_wp2_with fail
 refine wp_fresh (fun W => W.ownsRow w.heap.size 25 1 (.slice (some ⟨w.heap.size, 0, none⟩) ls.length ls.length) ls.length (List.replicate ls.length (Value.slice none 0 0)) ∧ Below w.heap.size w W ∧ w.heap.size < W.heap.size) ⟨World.ownsRow_lit (base := w.heap.size) (size := 1) w (List.replicate ls.length (Value.slice none 0 0)).toArray ls.length (Nat.le_refl _) (by unfold maxLen; omega) (by simp), (Below.refl _ _).alloc (Nat.le_refl _) _, by simp⟩ ?_
 rintro W0 ⟨ho, hb, hlt0⟩
 replace ho := Lib.hid ho
 replace hb := Lib.hid hb
 obtain ⟨g, hg⟩ : ∃ g, g = w.heap.size := ⟨_, rfl⟩
 rw [← hg] at ho hlt0 ⊢
 replace hg := Lib.hid hg
 clear hmk
 go_loopw [4, 5, 11] (fun _ _ t wr => ∃ (k : Nat) (vs : List Value), k ≤ ls.length ∧ t = .int .i64 k ∧ Hid (wr.ownsRow g 25 1 (.slice (some ⟨g, 0, none⟩) ls.length ls.length) ls.length vs) ∧ Hid (∀ j, j < k → ∃ v, vs[j]? = some v ∧ OwnB wr (g + 1) v (leafH (ls.getD j []))) ∧ Hid (Below w.heap.size w wr) ∧ Hid (g < wr.heap.size)) (fun _ _ t _ => ls.length - (intOf t).toNat)
 case atStart => exact ⟨0, _, by omega, rfl, ho, fun j hj => absurd hj (by omega), hb, hlt0⟩
 case round =>
  clear ho hb hlt0
  obtain ⟨k, vs, hk, rfl, ho, hv, hb, hgl⟩ := hrel
  by_cases hlt : k < ls.length
  · obtain ⟨b, o, rfl, hbB, hcell⟩ := hu.out.at_ (by omega)
    obtain ⟨A', c', hc, g1, g2, hsee⟩ := hcell k hlt
    have x0 := (hb.out.cell (p := ⟨b, o + k, none⟩) (by dsimp only; omega)).trans hc
    have hlk : (ls.getD k []).length ≤ 1048576 := by
     rw [List.getD_eq_getElem?_getD, List.getElem?_eq_getElem hlt]; exact hl _ (List.getElem_mem hlt)
    have hlf := Lib.hid (leaf_any B _ _ wr (hsee.below (hb.out.mono hB)) (Nat.le_trans hB hb.out.size) (by omega))
    obtain ⟨l, hlz⟩ : ∃ l, ls.getD k [] = l := ⟨_, rfl⟩
    rw [hlz] at x0 hlf
    replace hlz := Lib.hid hlz
    clear hc hcell hsee hlk hl g1 g2
    have i0 : (0 : Int) ≤ (k : Int) := by omega
    have i1 : (k : Int) < (ls.length : Int) := by omega
    go_wp2_with fail
    refine hlf.out.mono ?_
    rintro e w2 ⟨v2, rfl, h2, hb2⟩
    have ho2 := own_below ho.out hb2
    obtain ⟨z, hz⟩ : ∃ z, vs[k]? = some z := ⟨vs[k]'(by have := ho2.1; omega), List.getElem?_eq_getElem _⟩
    have y0 : w2.cell? ⟨g, k, none⟩ = some z := (ho2.cellAt k (by omega)).trans hz
    have f0 := ho2.frozenAt k
    obtain ⟨A2, c2, rfl, -, -⟩ := h2.sees.mk_
    replace ho2 := Lib.hid ho2
    replace hz := Lib.hid hz
    replace h2 := Lib.hid (h2.mono (show g + 1 ≤ wr.heap.size from hgl.out))
    replace hv := Lib.hid (fun j hj => by obtain ⟨v, e1, e2⟩ := hv.out j hj; exact ⟨v, e1, e2.below hb2⟩ : ∀ j, j < k → ∃ v, vs[j]? = some v ∧ OwnB w2 (g + 1) v (leafH (ls.getD j [])))
    replace hgl := Lib.hid (Nat.lt_of_lt_of_le hgl.out hb2.size)
    replace hb := Lib.hid (bgo hb.out hb2)
    clear hb2 hlf ho
    dsimp only
    go_wp2_with fail
    go_roundw
    case rel =>
     refine ⟨k + 1, vs.set k (.slice A2 (leafH l).length c2), by omega, by go_num, (ho2.out.stored k _).1, fun j hj => ?_, hb.out.setCell (by have := hg.out; dsimp only; omega) _, by have := hgl.out; show _ < _; simp [World.setCell]; omega⟩
     by_cases hjk : j = k
     · subst hjk
       refine ⟨_, List.getElem?_set_self (by have := ho2.out.1; omega), ?_⟩
       rw [hlz.out]
       exact ownsRow_setCell_below h2.out (by dsimp only; omega) _
     · obtain ⟨v, e1, e2⟩ := hv.out j (by omega)
       exact ⟨v, by rw [List.getElem?_set_ne (by omega)]; exact e1, ownsRow_setCell_below e2 (by dsimp only; omega) _⟩
    case measure => simp [intOf]; omega
  · have hkn : k = ls.length := by omega
    have hfin : Hid (SeesL wr wr.heap.size (.slice (some ⟨g, 0, none⟩) ls.length ls.length) (ls.map leafH)) := by
     refine ⟨vs, by rw [List.length_map]; exact Sees.of_own ho.out, fun j hj => ?_⟩
     rw [List.length_map] at hj
     obtain ⟨v, e1, e2⟩ := hv.out j (by omega)
     refine ⟨v, e1, ?_⟩
     rw [List.getD_eq_getElem?_getD, List.getElem?_map, List.getElem?_eq_getElem hj, Option.map_some, Option.getD_some]
     rw [List.getD_eq_getElem?_getD, List.getElem?_eq_getElem hj, Option.getD_some] at e2
     exact e2.sees
    replace hkn := Lib.hid hkn
    go_wp2_with fail
    go_ret
    exact ⟨_, rfl, hfin.out, hb.out⟩
theorem root_top (ls : List Bs) (B : Nat) (u : Value) (w : World) (hu : SeesL w B u ls) (hB : B ≤ w.heap.size) (hn : ls.length ≤ 1024) (hl : ∀ l ∈ ls, l.length ≤ 1048576) :
 Calls Tryz.prog 97 #[u] w (RootPost ls w) := by
 have hs := Lib.hid (of_any ls B u w hu hB hn hl)
 obtain ⟨A, c, rfl, hc1, hc2⟩ := hu.mk_
 have j0 : ¬ ((1024 : Int) < (ls.length : Int)) := by omega
 clear hu hl
 go_enter Tryz.func97, Tryz.ntmps97
 go_wp2_with fail
 refine hs.out.mono ?_
 rintro e w1 ⟨v, rfl, h1, hb1⟩
 dsimp only
 go_wp2_with fail
 refine (root_any _ _ _ _ _ (Nat.le_refl _) h1 (Nat.le_refl _) (by rw [List.length_map]; exact hn) (leafs_len ls)).mono ?_
 rintro e w2 ⟨v2, rfl, h2, hb2⟩
 dsimp only
 go_wp2_with fail
 go_returns
 exact ⟨v2, rfl, h2.mono hb1.size, bgo hb1 hb2⟩
theorem set_rep (ls : List Bs) (k n : Nat) (x : Bs) (hk : ls.length = k) (hn : k < n) : (ls ++ List.replicate (n - k) []).set k x = (ls ++ [x]) ++ List.replicate (n - (k + 1)) [] := by
 subst hk
 rw [List.set_append_right _ _ (Nat.le_refl _), Nat.sub_self, show n - ls.length = (n - (ls.length + 1)) + 1 from by omega, List.replicate_succ, List.set_cons_zero, List.append_assoc]
 rfl
set_option maxRecDepth 100000 in
theorem leaves_any (B : Nat) (u : Value) (seed : Bs) (h : Nat) (w : World) (hu : SeesB w B u seed) (hB : B ≤ w.heap.size) (hl : seed.length = 32) (hh : h ≤ 6) :
 Calls Tryz.prog 137 #[u, .int .i64 (h : Int)] w (GivesL (leavesL seed (2 ^ h)) w) := by
 obtain ⟨A, c, rfl, hc1, hc2⟩ := hu.mk_
 rw [hl] at hc1 hu ⊢
 replace hl := Lib.hid hl
 have hsh := wrap_pow h hh
 obtain ⟨n1, n2⟩ := pow_le64 h hh
 generalize 2 ^ h = n at *
 have hmk := make_lists 30 Tryz.underlying30 n (by omega)
 have hlen0 := leavesL_len seed
 replace hlen0 := Lib.hid hlen0
 replace hu := Lib.hid hu
 go_enter Tryz.func137, Tryz.ntmps137
 go_wp2_with fail
 refine wp_fresh (fun W => OwnL W w.heap.size (.slice (some ⟨w.heap.size, 0, none⟩) n n) (leavesL seed 0 ++ List.replicate (n - 0) []) ∧ Below w.heap.size w W ∧ w.heap.size < W.heap.size) ⟨show OwnL _ _ _ (List.replicate n []) from OwnL.made w n (by unfold maxLen; omega), balloc w _, by simp⟩ ?_
 rintro W0 ⟨ho, hb, hlt0⟩
 replace ho := Lib.hid ho
 replace hb := Lib.hid hb
 obtain ⟨g, hg⟩ : ∃ g, g = w.heap.size := ⟨_, rfl⟩
 rw [← hg] at ho hlt0 ⊢
 replace hg := Lib.hid hg
 clear hmk hsh
 go_loopw [6, 12] (fun _ t wr => ∃ k : Nat, k ≤ n ∧ t = .int .i64 k ∧ Hid (OwnL wr g (.slice (some ⟨g, 0, none⟩) n n) (leavesL seed k ++ List.replicate (n - k) [])) ∧ Hid (Below w.heap.size w wr) ∧ Hid (g < wr.heap.size)) (fun _ t _ => n - (intOf t).toNat)
 case atStart => exact ⟨0, by omega, rfl, ho, hb, hlt0⟩
 case round =>
  clear ho hb hlt0
  obtain ⟨k, hk, rfl, ho, hb, hgl⟩ := hrel
  by_cases hlt : k < n
  · have hpb := otpublic_any B _ seed (k : Int) wr (hu.out.below (hb.out.mono hB)) (Nat.le_trans hB hb.out.size)
    have hoc : otC seed (k : Int) = 0 := by simp [otC, hl.out]; omega
    unfold PubPost pubL at hpb
    rw [hoc, if_pos rfl, Int.toNat_natCast] at hpb
    replace hpb := Lib.hid hpb
    have hst : Hid (leavesL seed (k + 1) ++ List.replicate (n - (k + 1)) [] = (leavesL seed k ++ List.replicate (n - k) []).set k (otPublic seed k)) := by
     show _ = _
     rw [set_rep _ _ _ _ (leavesL_len seed k) hlt, leavesL_succ]
    have hrow : Hid (k < (leavesL seed k ++ List.replicate (n - k) []).length) := by show _ < _; rw [List.length_append, leavesL_len, List.length_replicate]; omega
    generalize leavesL seed k ++ List.replicate (n - k) [] = row at *
    generalize otPublic seed k = l at *
    clear hoc
    have i0 : (0 : Int) ≤ (k : Int) := by omega
    have i1 : (k : Int) < (n : Int) := by omega
    go_wp2_with fail
    refine hpb.out.mono ?_
    rintro e w2 ⟨v2, rfl, h2, hb2, hf2⟩
    have ho2 := ho.out.below hb2
    obtain ⟨⟨z, y0⟩, f0⟩ := ho2.cell hrow.out
    obtain ⟨o1, o2⟩ := ho2.set hrow.out (Elt.of_from h2 hf2 (fun k hk => by cases hk; exact hgl.out))
    obtain ⟨A2, c2, rfl, -, -⟩ := h2.mk_
    replace hb := Lib.hid ((bgo hb.out hb2).trans (o2.mono (by have := hg.out; omega)))
    replace hgl : Hid (g < (w2.setCell ⟨g, k, none⟩ (.slice A2 l.length c2)).heap.size) := Nat.lt_of_lt_of_le (Nat.lt_of_lt_of_le hgl.out hb2.size) o2.size
    replace o1 := Lib.hid o1
    clear hb2 hpb ho ho2 o2 h2 hf2
    dsimp only
    go_wp2_with fail
    go_roundw
    case rel => exact ⟨k + 1, by omega, by go_num, by rw [hst.out]; exact o1.out, hb, hgl⟩
    case measure => simp [intOf]; omega
  · have hkn : k = n := by omega
    have hfin : Hid (OwnL wr w.heap.size (.slice (some ⟨g, 0, none⟩) n n) (leavesL seed n)) := by
     have := ho.out
     rw [hkn, Nat.sub_self, List.replicate_zero, List.append_nil] at this
     exact this.mono (by have := hg.out; omega)
    replace hkn := Lib.hid hkn
    clear ho
    go_wp2_with fail
    go_ret
    exact ⟨_, rfl, hfin.out, hb.out⟩
set_option maxRecDepth 100000 in
theorem path_any (m : Nat) : ∀ (ls : List Bs) (i : Nat) (B : Nat) (u : Value) (w : World), ls.length ≤ m → i < ls.length → SeesL w B u ls → B ≤ w.heap.size → ls.length ≤ 1024 → (∀ l ∈ ls, l.length = 32) →
 Calls Tryz.prog 144 #[u, .int .i64 (i : Int)] w (GivesL (pathG ls i) w) := by
 induction m with
 | zero => intro ls i B u w hm hi; omega
 | succ m ih =>
   intro ls i B u w hm hi hu hB hn hl
   by_cases h0 : ls.length ≤ m
   · exact ih ls i B u w h0 hi hu hB hn hl
   · have hlen : ls.length = m + 1 := by omega
     by_cases h2 : 2 ≤ ls.length
     · obtain ⟨A, c, rfl, hc1, hc2⟩ := hu.mk_
       obtain ⟨k1, k2, k3⟩ := splitN_lt ls.length h2
       have hdv := divide_any A ls.length c w h2 hn hc1 hc2
       unfold DividePost at hdv
       have p1 := Lib.hid (fun h => pathG_left ls i h2 h)
       have p2 := Lib.hid (fun h => pathG_right ls i h2 h)
       generalize splitN ls.length = k at *
       obtain ⟨b, o, rfl, hbB, -⟩ := hu.at_ (by omega)
       have c1 := SeesL.cut (a := 0) (b := k) hu (by omega) (by omega)
       have c2 := SeesL.cut (a := k) (b := ls.length) hu (by omega) (Nat.le_refl _)
       rw [cutA_zero, Nat.sub_zero, Nat.sub_zero, List.drop_zero] at c1
       rw [List.take_of_length_le (by rw [List.length_drop]; omega)] at c2
       generalize cutA (some ⟨b, o, none⟩) c k 1 = A2 at hdv c2
       have l1 : ∀ x ∈ ls.take k, x.length = 32 := fun x hx => hl x (List.mem_of_mem_take hx)
       have l2 : ∀ x ∈ ls.drop k, x.length = 32 := fun x hx => hl x (List.mem_of_mem_drop hx)
       have n1 : (ls.take k).length = k := by rw [List.length_take]; omega
       have n2 : (ls.drop k).length = ls.length - k := by rw [List.length_drop]
       have q1 := Lib.hid (rootG_len _ l1)
       have q2 := Lib.hid (rootG_len _ l2)
       replace hdv := Lib.hid hdv
       have hlm := Lib.hid hlen
       have hplen : ∀ j, Hid ((pathG (ls.take k) j).length ≤ 1024 ∧ (pathG (ls.drop k) j).length ≤ 1024) := fun j => ⟨Nat.le_trans (pathG_short _ _) (by omega), Nat.le_trans (pathG_short _ _) (by omega)⟩
       have j4 : ¬ ((ls.length : Int) = 1) := by omega
       by_cases hk : i < k
       · have g1 := Lib.hid (fun q => ih (ls.take k) i B _ (w.drewN q) (by omega) (by omega) (SeesL.below c1 (below_drewN (Below.refl B w) q)) hB (by omega) l1)
         have g2 := Lib.hid (fun (W : World) (hbW : Below w.heap.size w W) => root_any _ (ls.drop k) B _ W (Nat.le_refl _) (SeesL.below c2 (hbW.mono hB)) (Nat.le_trans hB hbW.size) (by omega) l2)
         have i0 : (i : Int) < (k : Int) := by omega
         replace p1 := Lib.hid (p1.out hk)
         have hp := Lib.hid (hplen i).out.1
         clear ih c1 c2 hu hlen hl l1 l2 n1 n2 p2 hplen
         generalize pathG (ls.take k) i = P at *
         generalize rootG (ls.drop k) = R at *
         generalize rootG (ls.take k) = R' at *
         go_enter Tryz.func144, Tryz.ntmps144
         go_wp2_with fail
         refine hdv.out.mono ?_
         rintro e w0 ⟨rfl, q, rfl⟩
         dsimp only
         go_wp2_with fail
         refine (g1.out q).mono ?_
         rintro e w1 ⟨v1, rfl, h1, hb1⟩
         have hb1' : Below w.heap.size w w1 := (below_drewN (Below.refl _ _) q).trans hb1
         dsimp only
         go_wp2_with fail
         refine (g2.out w1 hb1').mono ?_
         rintro e w2 ⟨v2, rfl, h2', hb2⟩
         have hw2 := bgo hb1' hb2
         have ho2 := h1.below hb2
         have hel := Elt.of_from (v := v1) h2'.sees h2'.from (fun k hk => (h1.lt k hk).2)
         have hal := balloc w2 (.cells #[v2] 25)
         have hcell := Lib.hid (one_cell w2 v2 25)
         obtain ⟨A9, c9, rfl, -, -⟩ := h2'.sees.mk_
         obtain ⟨A8, c8, rfl⟩ := h1.shape
         replace ho2 := Lib.hid (ho2.below hal)
         replace hel := Lib.hid (hel.below hal)
         have hb3 := Lib.hid (bgo hw2 hal)
         clear hb2 hb1 hb1' hw2 h1 h2' hal g1 g2
         dsimp only
         go_wp2_with (at_builtin; refine wpList_appL (by rfl) _ _ 30 Tryz.underlying30 rfl w.heap.size _ P rfl ho2.out _ _ _ R rfl hcell.out hel.out (by have := hp.out; omega) hb3.out.size ?_)
         intro v' w' hW2 hb4
         have hW2 := Lib.hid hW2
         have hb4 := Lib.hid hb4
         go_wp2_with fail
         go_ret
         exact ⟨_, rfl, by rw [p1.out]; exact hW2.out, hb3.out.trans hb4.out⟩
       · have g1 := Lib.hid (fun q => ih (ls.drop k) (i - k) B _ (w.drewN q) (by omega) (by omega) (SeesL.below c2 (below_drewN (Below.refl B w) q)) hB (by omega) l2)
         have g2 := Lib.hid (fun (W : World) (hbW : Below w.heap.size w W) => root_any _ (ls.take k) B _ W (Nat.le_refl _) (SeesL.below c1 (hbW.mono hB)) (Nat.le_trans hB hbW.size) (by omega) l1)
         have i0 : ¬ ((i : Int) < (k : Int)) := by omega
         have i1 : (k : Int) ≤ (i : Int) := by omega
         have i2 : Hid (((i - k : Nat) : Int) = (i : Int) - (k : Int)) := by show _ = _; omega
         rw [i2.out] at g1
         replace p2 := Lib.hid (p2.out hk)
         have hp := Lib.hid (hplen (i - k)).out.2
         clear ih c1 c2 hu hlen hl l1 l2 n1 n2 p1 hplen
         generalize pathG (ls.drop k) (i - k) = P at *
         generalize rootG (ls.drop k) = R' at *
         generalize rootG (ls.take k) = R at *
         go_enter Tryz.func144, Tryz.ntmps144
         go_wp2_with fail
         refine hdv.out.mono ?_
         rintro e w0 ⟨rfl, q, rfl⟩
         dsimp only
         go_wp2_with fail
         refine (g1.out q).mono ?_
         rintro e w1 ⟨v1, rfl, h1, hb1⟩
         have hb1' : Below w.heap.size w w1 := (below_drewN (Below.refl _ _) q).trans hb1
         dsimp only
         go_wp2_with fail
         refine (g2.out w1 hb1').mono ?_
         rintro e w2 ⟨v2, rfl, h2', hb2⟩
         have hw2 := bgo hb1' hb2
         have ho2 := h1.below hb2
         have hel := Elt.of_from (v := v1) h2'.sees h2'.from (fun k hk => (h1.lt k hk).2)
         have hal := balloc w2 (.cells #[v2] 25)
         have hcell := Lib.hid (one_cell w2 v2 25)
         obtain ⟨A9, c9, rfl, -, -⟩ := h2'.sees.mk_
         obtain ⟨A8, c8, rfl⟩ := h1.shape
         replace ho2 := Lib.hid (ho2.below hal)
         replace hel := Lib.hid (hel.below hal)
         have hb3 := Lib.hid (bgo hw2 hal)
         clear hb2 hb1 hb1' hw2 h1 h2' hal g1 g2
         dsimp only
         go_wp2_with (at_builtin; refine wpList_appL (by rfl) _ _ 30 Tryz.underlying30 rfl w.heap.size _ P rfl ho2.out _ _ _ R rfl hcell.out hel.out (by have := hp.out; omega) hb3.out.size ?_)
         intro v' w' hW2 hb4
         have hW2 := Lib.hid hW2
         have hb4 := Lib.hid hb4
         go_wp2_with fail
         go_ret
         exact ⟨_, rfl, by rw [p2.out]; exact hW2.out, hb3.out.trans hb4.out⟩
     · have h1 : ls.length = 1 := by omega
       have hp : pathG ls i = [] := pathG_one _ _ h2
       obtain ⟨A, c, rfl, hc1, hc2⟩ := hu.mk_
       rw [h1] at hc1 ⊢
       rw [hp]
       clear hu ih hl hlen hp h1
       go_enter Tryz.func144, Tryz.ntmps144
       go_wp2_with fail
       go_ret
       exact ⟨_, rfl, OwnL.nil _ _, Below.refl _ _⟩
theorem path_top (ls : List Bs) (i : Nat) (B : Nat) (u : Value) (w : World) (hu : SeesL w B u ls) (hi : i < ls.length) (hB : B ≤ w.heap.size) (hn : ls.length ≤ 1024) (hl : ∀ l ∈ ls, l.length ≤ 1048576) :
 Calls Tryz.prog 71 #[u, .int .i64 (i : Int)] w (PathPost (ls.map leafH) i w) := by
 have hs := Lib.hid (of_any ls B u w hu hB hn hl)
 obtain ⟨A, c, rfl, hc1, hc2⟩ := hu.mk_
 have j0 : ¬ ((1024 : Int) < (ls.length : Int)) := by omega
 have j1 : ¬ ((i : Int) < 0) := by omega
 have j2 : ¬ ((ls.length : Int) ≤ (i : Int)) := by omega
 clear hu hl
 go_enter Tryz.func71, Tryz.ntmps71
 go_wp2_with fail
 refine hs.out.mono ?_
 rintro e w1 ⟨v, rfl, h1, hb1⟩
 dsimp only
 go_wp2_with fail
 refine (path_any _ _ i _ _ _ (Nat.le_refl _) (by rw [List.length_map]; exact hi) h1 (Nat.le_refl _) (by rw [List.length_map]; exact hn) (leafs_len ls)).mono ?_
 rintro e w2 ⟨v2, rfl, h2, hb2⟩
 dsimp only
 go_wp2_with fail
 go_returns
 exact ⟨v2, rfl, h2.mono hb1.size, bgo hb1 hb2⟩
set_option maxRecDepth 100000 in
theorem otsign_any (B : Nat) (u u2 : Value) (seed d : Bs) (i : Nat) (w : World) (hu : SeesB w B u seed) (hu2 : SeesB w B u2 d) (hB : B ≤ w.heap.size) (hl : seed.length = 32) (hd : d.length = 16) (hi : i ≤ 2147483647) :
 Calls Tryz.prog 138 #[u, .int .i64 (i : Int), u2] w (OtSignPost (signL seed i d) w) := by
 obtain ⟨A, c, rfl, hc1, hc2⟩ := hu.mk_
 obtain ⟨AA, cc, rfl, hc3, hc4⟩ := hu2.mk_
 have hv := otvalid_any B _ seed (i : Int) w hu
 rw [show otC seed (i : Int) = 0 by simp [otC, hl]; omega] at hv
 have hdg := digits_any B _ d w hu2 hB hd
 unfold DigPost at hdg
 have hfin : Hid (signL seed i d = signF seed i (digs d) 35) := rfl
 have hlen := digs_len d
 have hlt16 := digs_get d hd
 rw [hd] at hlen hu2 hc3 hdg ⊢
 rw [hl] at hu hc1 hv ⊢
 generalize digs d = ds at *
 replace hlen : Hid (ds.length = 35) := hlen
 replace hlt16 := Lib.hid hlt16
 replace hl := Lib.hid hl
 replace hd := Lib.hid hd
 replace hu := Lib.hid hu
 replace hv := Lib.hid hv
 replace hdg := Lib.hid hdg
 clear hu2
 have hmk : ∀ W : World, (Instr.makeSlice 30 (.int .i64 35) (.int .i64 35)).run Tryz.prog W = .ok (.slice (some ⟨W.heap.size, 0, none⟩) 35 35) (W.alloc (.cells (Array.replicate 35 (Value.slice none 0 0)) 25)) := fun W => by
  rw [← List.toArray_replicate]; exact make_lists 30 Tryz.underlying30 35 (by omega) W
 go_enter Tryz.func138, Tryz.ntmps138
 go_wp2_with fail
 refine hv.out.mono ?_
 rintro e w0 ⟨rfl, rfl⟩
 dsimp only
 go_wp2_with fail
 refine hdg.out.mono ?_
 rintro e w1 ⟨v1, rfl, h1, hb1⟩
 obtain ⟨A1, c1, rfl, g1, g2⟩ := h1.sees.mk_
 rw [hlen.out] at g1 ⊢
 have h1' := h1.sees
 rw [hlen.out] at h1'
 obtain ⟨b, o, rfl, hbB, hcell⟩ := h1'.at_ (by rw [hlen.out]; omega)
 rw [hlen.out] at hcell
 replace hcell := Lib.hid hcell
 clear h1 h1'
 dsimp only
 go_wp2_with fail
 obtain ⟨wo, rfl⟩ : ∃ wo : World, wo = w1 := ⟨_, rfl⟩
 refine wp_fresh (fun W => OwnL W wo.heap.size (.slice (some ⟨wo.heap.size, 0, none⟩) 35 35) (signF seed i ds 0 ++ List.replicate (35 - 0) []) ∧ Below wo.heap.size wo W ∧ wo.heap.size < W.heap.size) ⟨show OwnL _ _ _ (List.replicate 35 []) from OwnL.made wo 35 (by unfold maxLen; omega), balloc wo _, by simp⟩ ?_
 rintro W0 ⟨ho, hb, hlt0⟩
 replace ho := Lib.hid ho
 replace hb := Lib.hid hb
 replace hb1 := Lib.hid hb1
 obtain ⟨g, hg⟩ : ∃ g, g = wo.heap.size := ⟨_, rfl⟩
 rw [← hg] at ho hlt0 ⊢
 replace hg := Lib.hid hg
 clear hmk hdg hv
 go_loopw [12, 13, 33] (fun _ _ t wr => ∃ k : Nat, k ≤ 35 ∧ t = .int .i64 k ∧ Hid (OwnL wr g (.slice (some ⟨g, 0, none⟩) 35 35) (signF seed i ds k ++ List.replicate (35 - k) [])) ∧ Hid (Below wo.heap.size wo wr) ∧ Hid (g < wr.heap.size)) (fun _ _ t _ => 35 - (intOf t).toNat)
 case atStart => exact ⟨0, by omega, rfl, ho, hb, hlt0⟩
 case round =>
  clear ho hb hlt0
  obtain ⟨k, hk, rfl, ho, hb, hgl⟩ := hrel
  by_cases hlt : k < 35
  · have x0 := (hb.out.cell (p := ⟨b, o + k, none⟩) hbB).trans (hcell.out k hlt)
    have hdk := hlt16.out k hlt
    have hst : Hid (signF seed i ds (k + 1) ++ List.replicate (35 - (k + 1)) [] = (signF seed i ds k ++ List.replicate (35 - k) []).set k (chainH (ds.getD k 0) (otBegin seed i k))) := by
     show _ = _
     rw [set_rep _ _ _ _ (signF_len seed i ds k) hlt, signF_succ]
    have hrow : Hid (k < (signF seed i ds k ++ List.replicate (35 - k) []).length) := by show _ < _; rw [List.length_append, signF_len, List.length_replicate]; omega
    have hbg := Lib.hid (begin_any B _ seed i k wr (hu.out.below ((bgo hb1.out hb.out).mono hB)) (Nat.le_trans hB (bgo hb1.out hb.out).size) (by rw [hl.out]; omega) hi (by omega))
    have hlb : Hid ((otBegin seed i k).length = 16) := short_len _
    generalize signF seed i ds k ++ List.replicate (35 - k) [] = row at *
    generalize otBegin seed i k = bg at *
    generalize ds.getD k 0 = dk at *
    have i0 : (0 : Int) ≤ (k : Int) := by omega
    have i1 : (k : Int) < 35 := by omega
    go_wp2_with fail
    refine hbg.out.mono ?_
    rintro e w2 ⟨v2, rfl, h2, hb2, hf2⟩
    have hch := chain_any _ _ _ (dk : Int) w2 h2 (Nat.le_refl _) (by rw [hlb.out]; omega)
    rw [chainN_nat dk hdk] at hch
    replace hch := Lib.hid hch
    generalize chainH dk bg = l at *
    clear h2 hf2
    dsimp only
    go_wp2_with fail
    refine hch.out.mono ?_
    rintro e w3 ⟨v3, rfl, h3, hb3, hf3⟩
    have hb23 := bgo hb2 hb3
    have ho2 := ho.out.below hb23
    obtain ⟨⟨z, y0⟩, f0⟩ := ho2.cell hrow.out
    obtain ⟨o1, o2⟩ := ho2.set hrow.out (Elt.of_from h3 hf3 (fun k hk => by cases hk; exact Nat.lt_of_lt_of_le hgl.out hb2.size))
    obtain ⟨A2, c2, rfl, -, -⟩ := h3.mk_
    replace hb := Lib.hid ((bgo hb.out hb23).trans (o2.mono (by have := hg.out; omega)))
    replace hgl : Hid (g < (w3.setCell ⟨g, k, none⟩ (.slice A2 l.length c2)).heap.size) := Nat.lt_of_lt_of_le (Nat.lt_of_lt_of_le hgl.out hb23.size) o2.size
    replace o1 := Lib.hid o1
    clear hb2 hb3 hb23 hbg hch ho ho2 o2 h3 hf3
    dsimp only
    go_wp2_with fail
    go_roundw
    case rel => exact ⟨k + 1, by omega, by go_num, by rw [hst.out]; exact o1.out, hb, hgl⟩
    case measure => simp [intOf]; omega
  · have hkn : k = 35 := by omega
    have hf : Hid (OwnL wr w0.heap.size (.slice (some ⟨g, 0, none⟩) 35 35) (signF seed i ds 35)) := by
     have := ho.out
     rw [hkn, Nat.sub_self, List.replicate_zero, List.append_nil] at this
     exact this.mono (by have := hg.out; have := hb1.out.size; omega)
    replace hkn := Lib.hid hkn
    clear ho
    go_wp2_with fail
    go_returns
    exact ⟨_, rfl, by rw [hfin.out]; exact hf.out, bgo hb1.out hb.out⟩
theorem slice_sizeMap : (Tryz.prog.info? 25).map (·.size) = some 1 := by kernel_rfl
theorem wp_copyG {o : Oper} {a : Act} {w : World} {K : Act → World → Prop} {Q : Exit → Act → World → Prop} (d s : Operand) (T : TypeId)
 (ho : o.op = .call { callee := .builtin .copy, args := #[d, s], argTypes := #[T, T] }) (E : TypeId) (hu : Tryz.prog.underlying T = some (.slice E)) (hsz : (Tryz.prog.info? E).map (·.size) = some 1)
 (g off dLen dCap : Nat) (ad : Addr) (sLen sCap : Nat) (hd : a.eval d = .slice (some ⟨g, off, none⟩) dLen dCap) (hs : a.eval s = .slice (some ad) sLen sCap)
 (cur : List Value) (t : TypeId) (hg : w.heap[g]? = some (.cells cur.toArray t (0, 0))) (cs : List Value) (hn : cs.length = Nat.min sLen dLen)
 (hsrc : ∀ j v, cs[j]? = some v → w.cell? (ad.add j) = some v) (hfit : off + cs.length ≤ cur.length) (h1 : ∀ v ∈ cs, v.oneCell' = true)
 (h : ∀ w', Hid (w'.heap[g]? = some (.cells (splice cur off cs).toArray t (0, 0))) → w.grownBy w' (some g) → K (a.put o.dst (goInt cs.length)) w') : o.wp Tryz.prog a w K Q := by
 have hrun := run_copy_row (P := Tryz.prog) w T T o.type E g off dLen dCap ad sLen sCap cur.toArray t cs hu hsz hg hn hsrc (by simpa using hfit) h1
 unfold Oper.wp
 simp [execOp, ho, resolve, invoke, builtin, hd, hs, hrun, Result.andThen]
 refine h _ (show _ = _ by simpa [splice] using setRow_heap w g _ _ t _ hg) ⟨rfl, rfl, rfl, by simp [World.setRow], fun k hk hne => setRow_other w g k _ (fun e => hne (by rw [e]))⟩
theorem wpList_copyG {ops : Array Oper} {rest : List Oper} {o : Oper} {a : Act} {w : World} {Q : Exit → Act → World → Prop} (hgd : o.guard = none) (d s : Operand) (T : TypeId)
 (ho : o.op = .call { callee := .builtin .copy, args := #[d, s], argTypes := #[T, T] }) (E : TypeId) (hu : Tryz.prog.underlying T = some (.slice E)) (hsz : (Tryz.prog.info? E).map (·.size) = some 1)
 (g off dLen dCap : Nat) (ad : Addr) (sLen sCap : Nat) (hd : a.eval d = .slice (some ⟨g, off, none⟩) dLen dCap) (hs : a.eval s = .slice (some ad) sLen sCap)
 (cur : List Value) (t : TypeId) (hg : w.heap[g]? = some (.cells cur.toArray t (0, 0))) (cs : List Value) (hn : cs.length = Nat.min sLen dLen)
 (hsrc : ∀ j v, cs[j]? = some v → w.cell? (ad.add j) = some v) (hfit : off + cs.length ≤ cur.length) (h1 : ∀ v ∈ cs, v.oneCell' = true)
 (h : ∀ w', Hid (w'.heap[g]? = some (.cells (splice cur off cs).toArray t (0, 0))) → w.grownBy w' (some g) → wpList Tryz.prog ops Q rest (a.put o.dst (goInt cs.length)) w') : wpList Tryz.prog ops Q (o :: rest) a w :=
 wpList_plain hgd fun _ hK => wp_copyG d s T ho E hu hsz g off dLen dCap ad sLen sCap hd hs cur t hg cs hn hsrc hfit h1 fun w' h2 h3 => hK _ _ (h w' h2 h3)
theorem step_copyG {ops : Array Oper} {o : Oper} {a : Act} {w : World} {K : Act → World → Prop} {Q : Exit → Act → World → Prop} {F : Prop} (hgd : o.guard = none) (d s : Operand) (T : TypeId)
 (ho : o.op = .call { callee := .builtin .copy, args := #[d, s], argTypes := #[T, T] }) (E : TypeId) (hu : Tryz.prog.underlying T = some (.slice E)) (hsz : (Tryz.prog.info? E).map (·.size) = some 1)
 (g off dLen dCap : Nat) (ad : Addr) (sLen sCap : Nat) (hd : a.eval d = .slice (some ⟨g, off, none⟩) dLen dCap) (hs : a.eval s = .slice (some ad) sLen sCap)
 (cur : List Value) (t : TypeId) (hg : w.heap[g]? = some (.cells cur.toArray t (0, 0))) (cs : List Value) (hn : cs.length = Nat.min sLen dLen)
 (hsrc : ∀ j v, cs[j]? = some v → w.cell? (ad.add j) = some v) (hfit : off + cs.length ≤ cur.length) (h1 : ∀ v ∈ cs, v.oneCell' = true)
 (h : ∀ w', Hid (w'.heap[g]? = some (.cells (splice cur off cs).toArray t (0, 0))) → w.grownBy w' (some g) → K (a.put o.dst (goInt cs.length)) w') :
 if Region.wanted o (yielded ops a.tmps) = true then Oper.wp Tryz.prog o a w K Q else F := by
 have hw : Region.wanted o (yielded ops a.tmps) = true := by simp [Region.wanted, hgd]
 rw [if_pos hw]
 exact wp_copyG d s T ho E hu hsz g off dLen dCap ad sLen sCap hd hs cur t hg cs hn hsrc hfit h1 h
theorem zeroL_size (n : Nat) : (Builtin.zeroCells (Value.slice none 0 0).cells n).size = n := by simp [Builtin.zeroCells, Value.cells]
set_option maxRecDepth 100000 in
theorem growL_any (n : Nat) (hn : n ≤ 1099511627776) (w : World) :
 Calls Tryz.prog 259 #[.slice none 0 0, .int .i64 (n : Int)] w (GivesL [] w) := by
 obtain ⟨i, hi, hz, hs, hb⟩ := info_parts slice_info
 have n0 : ¬ ((n : Int) < 0) := by omega
 go_enter Tryz.func259, Tryz.ntmps259
 by_cases h0 : n = 0
 · subst h0
   go_wp2_with fail
   go_ret
   exact ⟨_, rfl, OwnL.nil _ _, Below.refl _ _⟩
 · have h1 : (0 : Int) < (n : Int) := by omega
   have hr := Lib.run_append_nil_zeros (P := Tryz.prog) w 30 3 30 25 i (.slice none 0 0) .i64 .i64 Tryz.underlying30 Tryz.underlying3 hi hz n (by omega) (by omega) (by omega) (by rw [hb]; omega)
   go_wp2_with (at_builtin; refine Lib.wpList_append_run _ rfl _ _ _ _ rfl _ _ rfl rfl _ _ hr ?_)
   go_ret
   refine ⟨.slice (some ⟨w.heap.size, 0, none⟩) 0 (grownCap w n 0 25), rfl, ?_, ((Below.refl _ _).alloc (Nat.le_refl _) _).drew⟩
   have hg := grownCap_ge w n 0 25
   refine ⟨[], (World.ownsRow_made (base := w.heap.size) (e := 25) (size := 1) w _ (grownCap w n 0 25) (Nat.le_refl _) (grownCap_le_maxLen w n 0 25 (by unfold maxLen; omega)) (by
    have h1 := zeroL_size n
    have h2 := zeroL_size (grownCap w n 0 25 - n)
    rw [Array.size_append]
    simp only [Value.cells] at h1 h2 ⊢
    omega)).drew, fun k hk => absurd hk (by simp)⟩
theorem flatL_step (ls : List (List Bs)) (k : Nat) (h : k < ls.length) : (ls.take (k + 1)).flatten = (ls.take k).flatten ++ ls.getD k [] := by
 rw [List.take_succ_eq_append_getElem h, List.flatten_append, List.getD_eq_getElem?_getD, List.getElem?_eq_getElem h]
 simp
theorem flatL_le (ls : List (List Bs)) (k : Nat) : (ls.take k).flatten.length ≤ ls.flatten.length := by
 conv => rhs; rw [← List.take_append_drop k ls, List.flatten_append, List.length_append]
 omega
def sumLL (ls : List (List Bs)) (k : Nat) : Nat := (ls.take k).flatten.length
theorem sumLL_step (ls : List (List Bs)) (k : Nat) (h : k < ls.length) : sumLL ls (k + 1) = sumLL ls k + (ls.getD k []).length := by
 rw [sumLL, flatL_step ls k h, List.length_append]; rfl
theorem elts_of_sees {w : World} {B : Nat} {u v : Value} {ls : List Bs} (h : SeesL w B u ls) (hB : B ≤ w.heap.size) (hv : ∀ k, v.ownBlock = some k → B ≤ k) :
 ∃ vs : List Value, Sees w B u 1 ls.length vs ∧ ∀ k, k < ls.length → ∃ y, vs[k]? = some y ∧ Elt w v y (ls.getD k []) := by
 obtain ⟨vs, h1, h2⟩ := h
 exact ⟨vs, h1, fun k hk => by obtain ⟨y, e1, e2⟩ := h2 k hk; exact ⟨y, e1, Elt.of_old e2 hB hv⟩⟩
set_option maxRecDepth 100000 in
theorem concatL_any (B : Nat) (u : Value) (ls : List (List Bs)) (w : World) (hu : SeesLL w B u ls) (hu2 : ∀ W, Below B w W → SeesLL W B u ls) (hB : B ≤ w.heap.size) (hlen : ls.flatten.length ≤ 1048576) :
 Calls Tryz.prog 210 #[u] w (GivesL ls.flatten w) := by
 obtain ⟨A, c, rfl, hc1, hc2⟩ := hu.mk_
 have hm : ls.length ≤ 9223372036854775807 := by unfold maxLen at hc2; omega
 replace hu2 := Lib.hid hu2
 go_enter Tryz.func210, Tryz.ntmps210
 go_wp2_with fail
 go_loopw [3, 5, 11] (fun s _ t wr => ∃ k : Nat, k ≤ ls.length ∧ s = .int .i64 (sumLL ls k : Int) ∧ t = .int .i64 k ∧ wr = w) (fun _ _ t _ => ls.length - (intOf t).toNat)
 case atStart => exact ⟨0, by omega, rfl, rfl, rfl⟩
 case round =>
  obtain ⟨k, hk, rfl, rfl, rfl⟩ := hrel
  by_cases hlt : k < ls.length
  · obtain ⟨b, o, rfl, hb, hcell⟩ := hu.at_ (by omega)
    obtain ⟨A', c', hc, g1, g2, hsee⟩ := hcell k hlt
    have hst := Lib.hid (sumLL_step ls k hlt)
    have hle := flatL_le ls (k + 1)
    have hd : (ls.take (k + 1)).flatten.length = sumLL ls (k + 1) := rfl
    rw [hd, hst.out] at hle
    generalize sumLL ls k = s at *
    generalize ls.getD k [] = m at *
    clear hcell hu hsee hd
    have i0 : (0 : Int) ≤ (k : Int) := by omega
    have i1 : (k : Int) < (ls.length : Int) := by omega
    have i2 : ¬ ((s : Int) + (m.length : Int) < 0) := by omega
    go_wp2_with fail
    go_roundw
    case rel => exact ⟨k + 1, by omega, by rw [hst.out]; rfl, by go_num, trivial⟩
    case measure => simp [intOf]; omega
  · obtain ⟨s, hs⟩ : ∃ s, sumLL ls k = s := ⟨_, rfl⟩
    have hs2 : s ≤ 1048576 := by rw [← hs]; exact Nat.le_trans (flatL_le ls k) hlen
    rw [hs]
    have hB' := Lib.hid hB
    clear hu hB
    go_wp2_with (go_at_call 259; refine (growL_any s (by omega) _).mono ?_; rintro e w' ⟨v, rfl, hW, hbw⟩)
    have hW := Lib.hid hW
    have hbw := Lib.hid hbw
    rename_i kk _ _
    obtain ⟨w, rfl⟩ : ∃ w0 : World, w0 = wr := ⟨_, rfl⟩
    go_loopw [6, 8, 27] (fun r _ t wr => ∃ k : Nat, k ≤ ls.length ∧ t = .int .i64 k ∧ Hid (OwnL wr w.heap.size r (ls.take k).flatten) ∧ Hid (Below w.heap.size w wr)) (fun _ _ t _ => ls.length - (intOf t).toNat)
    case atStart => exact ⟨0, by omega, rfl, hW, hbw⟩
    case round =>
     clear hW hbw
     obtain ⟨k, hk, rfl, hW, hbw⟩ := hrel
     by_cases hlt : k < ls.length
     · obtain ⟨b, o, rfl, hb, hcell⟩ := (hu2.out _ (hbw.out.mono hB'.out)).at_ (by omega)
       obtain ⟨A', c', x0, g1, g2, hsee⟩ := hcell k hlt
       obtain ⟨vs, hs1, hs2'⟩ := elts_of_sees (v := _) hsee (Nat.le_trans hB'.out hbw.out.size) (fun k hk => Nat.le_trans hB'.out (hW.out.lt k hk).1)
       replace hs1 := Lib.hid hs1
       replace hs2' := Lib.hid hs2'
       have hst := Lib.hid (flatL_step ls k hlt)
       have hle := flatL_le ls (k + 1)
       rw [hst.out, List.length_append] at hle
       generalize ls.getD k [] = m at *
       clear hcell hsee
       have i0 : (0 : Int) ≤ (k : Int) := by omega
       have i1 : (k : Int) < (ls.length : Int) := by omega
       go_wp2_with (at_builtin; refine wpList_appE (by rfl) _ _ 30 Tryz.underlying30 rfl w.heap.size _ _ rfl hW.out B _ m vs rfl hs1.out hs2'.out (by omega) hbw.out.size ?_)
       intro v' w' hW2 hb2
       have hW2 := Lib.hid hW2
       have hb2 := Lib.hid hb2
       go_wp2_with fail
       go_roundw
       case rel => exact ⟨k + 1, by omega, by go_num, by rw [hst.out]; exact hW2.out, hbw.out.trans hb2.out⟩
       case measure => simp [intOf]; omega
     · have he : (ls.take k).flatten = ls.flatten := by rw [List.take_of_length_le (by omega)]
       rw [he] at hW
       go_wp2_with fail
       go_ret
       exact ⟨_, rfl, hW.out, hbw.out⟩
theorem own_cons {w w' : World} {base g n c : Nat} {y : Value} {x : Bs} {ls : List Bs} {vs rest : List Value} (hg : w.grownBy w' (some g)) (hh : w'.heap[g]? = some (.cells (y :: vs ++ rest).toArray 25 (0, 0)))
 (hn : n = ls.length + 1) (hc : (y :: vs ++ rest).length = c) (hcm : c ≤ maxLen) (hv : vs.length = ls.length) (hb : base ≤ g) (A : Value) (hA : A.ownBlock = some g)
 (hx : Elt w A y x) (hel : ∀ k, k < ls.length → ∃ u, vs[k]? = some u ∧ Elt w A u (ls.getD k [])) :
 OwnL w' base (.slice (some ⟨g, 0, none⟩) n c) (x :: ls) := by
 subst hn
 have hst : ∀ {u : Value} {m : Bs}, Elt w A u m → Elt w' (.slice (some ⟨g, 0, none⟩) (ls.length + 1) c) u m := fun {u m} hu => ⟨hu.grown (by rw [hA]; exact hg), fun hm k hk => by
  have := hu.2 hm k hk
  rw [hA] at this
  exact this⟩
 refine ⟨y :: vs, ⟨by simp [hv], .inr ⟨g, c, (y :: vs ++ rest).toArray, rfl, hb, hh, ?_, hcm, by rw [List.size_toArray, hc, Nat.mul_one], ?_⟩⟩, fun k hk => ?_⟩
 · rw [← hc]; simp only [List.cons_append, List.length_cons, List.length_append]; omega
 · rw [Nat.mul_one, List.take_append_of_le_length (by simp [hv]), List.take_of_length_le (by simp [hv])]
 · cases k with
   | zero => exact ⟨y, rfl, hst hx⟩
   | succ k =>
     obtain ⟨u, e1, e2⟩ := hel k (by simpa using hk)
     exact ⟨u, by simpa using e1, by simpa using hst e2⟩
theorem run_append_cut_zeros {P : Program} (w : World) (t tn ty e : TypeId) (i : TypeInfo) (z : Value) (k kn : IntKind) (ht : P.underlying t = some (.slice e)) (htn : P.underlying tn = some (.int kn)) (hi : P.info? e = some i) (hz : i.zero = some z)
 (a : Addr) (c n : Nat) (h0 : c < n) (hs : i.size = 1) (hn : n ≤ 1000) (hb : i.bytes ≤ 1000) (hc : n ≤ 2 * c) (hc2 : c < 256) :
 (Builtin.append_ #[t, tn] ty #[.slice (some a) 0 c, .int k n]).run P w =
  .ok (.slice (some ⟨w.heap.size, 0, none⟩) n (grownCap w n c e)) (w.drew.alloc (.cells (Builtin.zeroCells z.cells n ++ Builtin.zeroCells z.cells (grownCap w n c e - n)) e)) := by
 have hn0 : n ≠ 0 := by omega
 have hw : IntKind.i64.wrap (n : Int) = n := by rw [IntKind.wrap_i64]; omega
 have h63' : ¬ (9223372036854775807 < (n : Int)) := by omega
 have hcap : Builtin.nextslicecap n c = 2 * c := by unfold Builtin.nextslicecap; rw [if_neg (by omega), if_pos hc2]
 have h48' : ¬ (281474976710656 < 2 * c * i.bytes) := by
  have : 2 * c * i.bytes ≤ 512 * 1000 := Nat.mul_le_mul (by omega) hb
  omega
 have h48i : ¬ (281474976710656 < (n : Int) * (i.bytes : Int)) := by
  have : n * i.bytes ≤ 1000 * 1000 := Nat.mul_le_mul hn hb
  have : ((n * i.bytes : Nat) : Int) ≤ 1000000 := by omega
  rw [Int.natCast_mul] at this
  omega
 have hneg : ¬ ((n : Int) < 0) := by omega
 have hnc : ¬ (n ≤ c) := by omega
 have hf := run_firstCells_some (P := P) w.drew 1 0 a 0 c [] rfl (by simp)
 simp [Builtin.append_, run_underlying ht, run_underlying htn, sizeOf, typeInfo, zeroValue, hi, hz, hs, asInt, asIntOf, hw, hn0, hneg, h63', hcap, h48', h48i, hnc, Question.forced, hf, newRow, grownCap]
theorem call_overlaps (args : Array Value) (w : World) : (callFunc 257 args).run Tryz.prog w = ((Extern.SlicesOverlaps.overlaps #[30, 30] #[4] args).run Tryz.prog w).andThen fun v w' => .ok (.value v) w' :=
 run_callFunc_extern Tryz.func257 (by kernel_rfl) (by kernel_rfl) (by kernel_rfl) (by kernel_rfl) args w
def InsPost (base : Nat) (ls : List Bs) (w : World) (e : Ending) (w' : World) : Prop := ∃ v, e = .returned v ∧ OwnL w' base v ls ∧ Below base w w'
theorem splice_head (cur vs : List Value) (y : Value) (n : Nat) (h : cur.take n = vs) (hn : n + 1 ≤ cur.length) : splice (splice cur 1 vs) 0 [y] = y :: vs ++ cur.drop (n + 1) := by
 subst h
 have hl : (cur.take n).length = n := by rw [List.length_take]; omega
 match cur, hn with
 | a :: cur, hn =>
   simp [splice, hl, Nat.add_comm]
theorem splice_head2 (Z vs : List Value) (y : Value) (n : Nat) (h : vs.length = n) (hn : n + 1 ≤ Z.length) : splice (splice Z 0 [y]) 1 vs = y :: vs ++ Z.drop (n + 1) := by
 subst h
 match Z, hn with
 | a :: Z, hn => simp [splice, Nat.add_comm]
set_option maxRecDepth 100000 in
theorem insert_any (base g gb n c : Nat) (y : Value) (x : Bs) (ls : List Bs) (w : World) (hown : OwnL w base (.slice (some ⟨g, 0, none⟩) n c) ls) (hn1 : 1 ≤ ls.length) (hn2 : ls.length ≤ 200) (hbx : Box w gb 25 [y]) (hne : gb ≠ g) (hx : Elt w (.slice (some ⟨g, 0, none⟩) n c) y x) (hbase : base ≤ w.heap.size) :
 Calls Tryz.prog 209 #[.slice (some ⟨g, 0, none⟩) n c, .int .i64 0, .slice (some ⟨gb, 0, none⟩) 1 1] w (InsPost base (x :: ls) w) := by
 have hlt := hown.lt g rfl
 obtain ⟨vs, hrow, hel⟩ := hown
 have hvl : vs.length = ls.length := by rw [hrow.1, Nat.mul_one]
 have hroom : ∃ cur : List Value, w.heap[g]? = some (.cells cur.toArray 25 (0, 0)) ∧ n = ls.length ∧ n ≤ c ∧ c ≤ maxLen ∧ cur.length = c ∧ cur.take n = vs := by
  rcases hrow.2 with ⟨e, _⟩ | ⟨g', c', cur, e, _, h1, h2, h3, h4, h5⟩
  · cases e
  · injection e with e1 e2 e3
    injection e1 with e1
    injection e1 with e1
    subst e1 e3 e2
    exact ⟨cur.toList, by simpa using h1, rfl, h2, h3, by simpa using h4, by simpa using h5⟩
 obtain ⟨cur, hg, rfl, hnc, hcm, hcl, htk⟩ := hroom
 have hvs1 : ∀ v ∈ vs, v.oneCell' = true := by
  intro v hv
  obtain ⟨k, hk⟩ := List.mem_iff_getElem?.1 hv
  obtain ⟨u, e1, e2⟩ := hel k (by have := (List.getElem?_eq_some_iff.1 hk).1; omega)
  rw [hk] at e1
  cases e1
  obtain ⟨A, c', rfl, -, -⟩ := e2.1.mk_
  rfl
 have hy1 : y.oneCell' = true := by
  obtain ⟨A, c', rfl, -, -⟩ := hx.1.mk_
  rfl
 have r0 : ∀ W, (Instr.slice 30 (.slice (some ⟨g, 0, none⟩) ls.length c) (some (.int .i64 0)) none none).run Tryz.prog W = .ok (.slice (some ⟨g, 0, none⟩) ls.length c) W := fun W => by
  have := run_cut_from (P := Tryz.prog) 30 Tryz.underlying30 1 slice_size (some ⟨g, 0, none⟩) ls.length c .i64 0 (by omega) (by omega) W
  rw [show (0 : Int).toNat = 0 from rfl, cutA_zero] at this
  exact this
 have j0 : ((0 : Int) == (ls.length : Int)) = false := by rw [beq_eq_false_iff_ne]; omega
 have hm : (ls.length : Int) ≤ 200 := by omega
 replace hrow := Lib.hid hrow
 replace hel := Lib.hid hel
 by_cases hfit : ls.length + 1 ≤ c
 · have j1 : ¬ ((c : Int) < (ls.length : Int) + 1) := by omega
   have r1 : ∀ W, (Instr.slice 30 (.slice (some ⟨g, 0, none⟩) ls.length c) none (some (.int .i64 ((ls.length : Int) + 1))) none).run Tryz.prog W = .ok (.slice (some ⟨g, 0, none⟩) (ls.length + 1) c) W := fun W => by
    have := run_cut_to (P := Tryz.prog) 30 Tryz.underlying30 1 slice_size (some ⟨g, 0, none⟩) ls.length c .i64 ((ls.length : Int) + 1) (by omega) (by omega) W
    rw [cutA_zero, show ((ls.length : Int) + 1).toNat = ls.length + 1 from by omega] at this
    exact this
   have r2 : ∀ W, (Instr.slice 30 (.slice (some ⟨g, 0, none⟩) (ls.length + 1) c) (some (.int .i64 1)) none none).run Tryz.prog W = .ok (.slice (some ⟨g, 1, none⟩) ls.length (c - 1)) W := fun W => by
    have := run_cut_from (P := Tryz.prog) 30 Tryz.underlying30 1 slice_size (some ⟨g, 0, none⟩) (ls.length + 1) c .i64 1 (by omega) (by omega) W
    rw [show (1 : Int).toNat = 1 from rfl, cutA, if_neg (by omega), Option.map_some, add_zero'] at this
    exact this
   have r3 : ∀ W, (Instr.slice 30 (.slice (some ⟨g, 0, none⟩) (ls.length + 1) c) (some (.int .i64 0)) none none).run Tryz.prog W = .ok (.slice (some ⟨g, 0, none⟩) (ls.length + 1) c) W := fun W => by
    have := run_cut_from (P := Tryz.prog) 30 Tryz.underlying30 1 slice_size (some ⟨g, 0, none⟩) (ls.length + 1) c .i64 0 (by omega) (by omega) W
    rw [show (0 : Int).toNat = 0 from rfl, cutA_zero] at this
    exact this
   have hov : (callFunc 257 #[.slice (some ⟨gb, 0, none⟩) 1 1, .slice (some ⟨g, 1, none⟩) ls.length (c - 1)]).run Tryz.prog w = .ok (.value (.bool false)) w := by
    rw [call_overlaps, Lib.run_overlaps_apart w 30 4 25 Tryz.underlying30 1 slice_size ⟨gb, 0, none⟩ ⟨g, 1, none⟩ 1 1 ls.length (c - 1) hne 25 25 1 c
     (by have : w.heap[gb]? = _ := hbx; simp [World.shape?, this]) (by simp [World.shape?, hg, hcl]) (by omega) (hbx.frozen 0) (hbx.frozen 1)]
    rfl
   replace hov := hov
   have hsz : (splice cur 1 vs).length = c := by rw [length_splice _ _ _ (by omega), hcl]
   have hspl := Lib.hid (splice_head cur vs y ls.length htk (by omega))
   have hy0 : w.cell? ⟨gb, 0, none⟩ = some y := hbx.cell 0
   have hvc : ∀ j v, vs[j]? = some v → w.cell? ((⟨g, 0, none⟩ : Addr).add j) = some v := fun j v hj => by
    rw [add_zero', Nat.zero_add, block_cell hg, ← hj, ← htk, List.getElem?_take, if_pos (by have := (List.getElem?_eq_some_iff.1 hj).1; omega)]
   replace hg := Lib.hid hg
   replace hvl := Lib.hid hvl
   replace hvc := Lib.hid hvc
   replace htk := Lib.hid htk
   replace hy0 := Lib.hid hy0
   replace hcl := Lib.hid hcl
   replace hsz := Lib.hid hsz
   clear hbx
   go_enter Tryz.func209, Tryz.ntmps209
   have m1 : IntKind.i64.wrap 1 = 1 := by decide +kernel
   have m2 : (1 : Int) ≤ (ls.length : Int) + 1 := by omega
   have hmin : Hid (vs.length = Nat.min (ls.length + 1) ls.length) := by show _ = _; rw [hvl.out]; exact (Nat.min_eq_right (by omega)).symm
   have hmin2 : Hid ([y].length = Nat.min 1 (ls.length + 1)) := by show _ = _; simp
   go_wp2_with fail
   go_region_held3 (fun W' : World => True) (trivial)
    ((refine step_copyG (by rfl) (.tmp 73) (.tmp 76) 30 (by rfl) 25 Tryz.underlying30 slice_sizeMap g 1 ls.length (c - 1) ⟨g, 0, none⟩ (ls.length + 1) c (by rfl) (by rfl) cur 25 hg.out vs hmin.out hvc.out (by rw [hvl.out, hcl.out]; omega) hvs1 ?_; intro w3 hg3 hb3))
   all_goals
    replace hb3 : Hid (w.grownBy w3 (some g)) := ⟨hb3.os, hb3.tape, hb3.output, hb3.size, hb3.block⟩
    have hy3 : Hid (∀ j v, [y][j]? = some v → w3.cell? ((⟨gb, 0, none⟩ : Addr).add j) = some v) := fun j v hj => by
     have hj0 : j = 0 := by
      have := (List.getElem?_eq_some_iff.1 hj).1
      simp at this; omega
     subst hj0
     cases hj
     rw [add_zero']
     exact hb3.out.cell hy0.out (by intro e; injection e with e; exact hne e)
    go_wp2_with (refine wpList_copyG rfl (.tmp 80) (.tmp 81) 30 rfl 25 Tryz.underlying30 slice_sizeMap g 0 (ls.length + 1) c ⟨gb, 0, none⟩ 1 1 rfl rfl (splice cur 1 vs) 25 hg3.out [y] hmin2.out hy3.out (by rw [hsz.out]; simp; omega) (by simpa using hy1) ?_; intro w4 hg4 hb4)
    rw [hspl.out] at hg4
    go_ret
    have hb34 : w.grownBy w4 (some g) := ggo hb3.out hb4
    refine ⟨_, rfl, own_cons hb34 hg4.out rfl (by rw [← hspl.out, length_splice _ _ _ (by rw [hsz.out]; simp; omega), hsz.out]) hcm hvl.out hlt.1 (.slice (some ⟨g, 0, none⟩) ls.length c) rfl hx hel.out, ?_⟩
    exact ⟨hb34.os, hb34.tape, hb34.output, hb34.size, fun k hk => hb34.block k (by omega) (by intro e; injection e with e; omega)⟩
 · obtain rfl : c = ls.length := by omega
   obtain ⟨i, hi, hz, hs, hby⟩ := info_parts slice_info
   have j1 : (ls.length : Int) < (ls.length : Int) + 1 := by omega
   have hr := run_append_cut_zeros (P := Tryz.prog) w 30 3 30 25 i (.slice none 0 0) .i64 .i64 Tryz.underlying30 Tryz.underlying3 hi hz ⟨g, 0, none⟩ ls.length (ls.length + 1) (by omega) hs (by omega) (by rw [hby]; omega) (by omega) (by omega)
   have hN := grownCap_ge w (ls.length + 1) ls.length 25
   have hNm := grownCap_le_maxLen w (ls.length + 1) ls.length 25 (by unfold maxLen; omega)
   have hZ : (Builtin.zeroCells (Value.slice none 0 0).cells (ls.length + 1) ++ Builtin.zeroCells (Value.slice none 0 0).cells (grownCap w (ls.length + 1) ls.length 25 - (ls.length + 1))).size = grownCap w (ls.length + 1) ls.length 25 := by
    rw [Array.size_append, zeroL_size, zeroL_size]; omega
   generalize grownCap w (ls.length + 1) ls.length 25 = N at *
   generalize Builtin.zeroCells (Value.slice none 0 0).cells (ls.length + 1) ++ Builtin.zeroCells (Value.slice none 0 0).cells (N - (ls.length + 1)) = Z at *
   have r1 : ∀ W, (Instr.slice 30 (.slice (some ⟨g, 0, none⟩) ls.length ls.length) none (some (.int .i64 0)) none).run Tryz.prog W = .ok (.slice (some ⟨g, 0, none⟩) 0 ls.length) W := fun W => by
    have := run_cut_to (P := Tryz.prog) 30 Tryz.underlying30 1 slice_size (some ⟨g, 0, none⟩) ls.length ls.length .i64 0 (by omega) (by omega) W
    rw [cutA_zero, show (0 : Int).toNat = 0 from rfl] at this
    exact this
   have r2 : ∀ W, (Instr.slice 30 (.slice (some ⟨w.heap.size, 0, none⟩) (ls.length + 1) N) (some (.int .i64 1)) none none).run Tryz.prog W = .ok (.slice (some ⟨w.heap.size, 1, none⟩) ls.length (N - 1)) W := fun W => by
    have := run_cut_from (P := Tryz.prog) 30 Tryz.underlying30 1 slice_size (some ⟨w.heap.size, 0, none⟩) (ls.length + 1) N .i64 1 (by omega) (by omega) W
    rw [show (1 : Int).toNat = 1 from rfl, cutA, if_neg (by omega), Option.map_some, add_zero'] at this
    exact this
   have r3 : ∀ W, (Instr.slice 30 (.slice (some ⟨w.heap.size, 0, none⟩) (ls.length + 1) N) (some (.int .i64 0)) none none).run Tryz.prog W = .ok (.slice (some ⟨w.heap.size, 0, none⟩) (ls.length + 1) N) W := fun W => by
    have := run_cut_from (P := Tryz.prog) 30 Tryz.underlying30 1 slice_size (some ⟨w.heap.size, 0, none⟩) (ls.length + 1) N .i64 0 (by omega) (by omega) W
    rw [show (0 : Int).toNat = 0 from rfl, cutA_zero] at this
    exact this
   have hg1 : (w.drew.alloc (.cells Z 25)).heap[w.heap.size]? = some (.cells Z.toList.toArray 25 (0, 0)) := by
    rw [Array.toArray_toList]; exact heap_alloc_new w.drew _
   have hb1 : Below w.heap.size w (w.drew.alloc (.cells Z 25)) := (bdrew w).trans (balloc w.drew _)
   have hgb := hbx.lt
   have hy0 : ∀ j v, [y][j]? = some v → (w.drew.alloc (.cells Z 25)).cell? ((⟨gb, 0, none⟩ : Addr).add j) = some v := fun j v hj => by
    have hj0 : j = 0 := by
     have := (List.getElem?_eq_some_iff.1 hj).1
     simp at this; omega
    subst hj0
    cases hj
    rw [add_zero']
    exact (hb1.cell (p := ⟨gb, 0, none⟩) hgb).trans (hbx.cell 0)
   have hvc : ∀ j v, vs[j]? = some v → (w.drew.alloc (.cells Z 25)).cell? ((⟨g, 0, none⟩ : Addr).add j) = some v := fun j v hj => by
    rw [add_zero', Nat.zero_add]
    refine (hb1.cell (p := ⟨g, j, none⟩) hlt.2).trans ?_
    rw [block_cell hg, ← hj, ← htk, List.getElem?_take, if_pos (by have := (List.getElem?_eq_some_iff.1 hj).1; omega)]
   have hsz : (splice Z.toList 0 [y]).length = N := by rw [length_splice _ _ _ (by simp; omega)]; simpa using hZ
   have hspl := Lib.hid (splice_head2 Z.toList vs y ls.length hvl (by simp; omega))
   have hmin : Hid (vs.length = Nat.min ls.length ls.length) := by show _ = _; rw [hvl]; exact (Nat.min_self _).symm
   have hmin2 : Hid ([y].length = Nat.min 1 (ls.length + 1)) := by show _ = _; simp
   have hxA : Elt w (.slice (some ⟨w.heap.size, 0, none⟩) 0 0) y x := ⟨hx.1, fun hl k hk e => by cases e; exact absurd (hx.1.blk hl _ hk) (by dsimp only; omega)⟩
   have helA : ∀ k, k < ls.length → ∃ u, vs[k]? = some u ∧ Elt w (.slice (some ⟨w.heap.size, 0, none⟩) 0 0) u (ls.getD k []) := fun k hk => by
    obtain ⟨u, e1, e2⟩ := hel.out k hk
    exact ⟨u, e1, e2.1, fun hl k hk e => by cases e; exact absurd (e2.1.blk hl _ hk) (by dsimp only; omega)⟩
   replace hg1 := Lib.hid hg1
   replace hb1 := Lib.hid hb1
   replace hvl := Lib.hid hvl
   replace hvc := Lib.hid hvc
   replace hy0 := Lib.hid hy0
   replace hsz := Lib.hid hsz
   replace hZ := Lib.hid hZ
   replace hxA := Lib.hid hxA
   replace helA := Lib.hid helA
   replace hr := Lib.hid hr
   have m1 : IntKind.i64.wrap 1 = 1 := by decide +kernel
   have m2 : (1 : Int) ≤ (ls.length : Int) + 1 := by omega
   clear hbx hg htk hcl hel hrow hx hi hz hs hby hfit hgb
   go_enter Tryz.func209, Tryz.ntmps209
   go_wp2_with (first
    | (at_builtin; refine Lib.wpList_append_run _ rfl _ _ _ _ rfl _ _ rfl rfl _ _ hr.out ?_)
    | (refine wpList_copyG rfl (.tmp 43) (.tmp 44) 30 rfl 25 Tryz.underlying30 slice_sizeMap w.heap.size 0 (ls.length + 1) N ⟨gb, 0, none⟩ 1 1 rfl rfl Z.toList 25 hg1.out [y] hmin2.out hy0.out (by have := hZ.out; simp; omega) (by simpa using hy1) ?_; intro w3 hg3 hb3))
   replace hb3 : Hid (w.grownBy w3 (some w.heap.size)) := ggo (gbelow hb1.out) ⟨hb3.os, hb3.tape, hb3.output, hb3.size, hb3.block⟩
   have hvc3 : Hid (∀ j v, vs[j]? = some v → w3.cell? ((⟨g, 0, none⟩ : Addr).add j) = some v) := fun j v hj => by
    have h1 := hvc.out j v hj
    rw [add_zero'] at h1 ⊢
    have h2 := hb1.out.cell (p := ⟨g, 0 + j, none⟩) hlt.2
    exact (World.cell?_of_block (hb3.out.block g hlt.2 (by intro e; injection e with e; omega))).trans (h2.symm.trans h1)
   go_region_held3 (fun W' : World => True) (trivial)
    ((refine step_copyG (by rfl) (.tmp 50) (.tmp 53) 30 (by rfl) 25 Tryz.underlying30 slice_sizeMap w.heap.size 1 ls.length (N - 1) ⟨g, 0, none⟩ ls.length ls.length (by rfl) (by rfl) (splice Z.toList 0 [y]) 25 hg3.out vs hmin.out hvc3.out (by rw [hvl.out, hsz.out]; omega) hvs1 ?_; intro w4 hg4 hb4))
   all_goals
    replace hb4 : Hid (w3.grownBy w4 (some w.heap.size)) := ⟨hb4.os, hb4.tape, hb4.output, hb4.size, hb4.block⟩
    go_wp2_with fail
    rw [hspl.out] at hg4
    go_ret
    have hb34 : w.grownBy w4 (some w.heap.size) := ggo hb3.out hb4.out
    refine ⟨_, rfl, own_cons hb34 hg4.out rfl (by rw [← hspl.out, length_splice _ _ _ (by rw [hsz.out, hvl.out]; omega), hsz.out]) hNm hvl.out hbase (.slice (some ⟨w.heap.size, 0, none⟩) 0 0) rfl hxA.out helA.out, ?_⟩
    exact ⟨hb34.os, hb34.tape, hb34.output, hb34.size, fun k hk => hb34.block k (by omega) (by intro e; injection e with e; omega)⟩
set_option maxRecDepth 100000 in
theorem sbegin_any (h i : Nat) (w : World) (hh : h < 256) (hi : i < 4294967296) :
 Calls Tryz.prog 211 #[.agg #[.int .i64 (h : Int), .int .i64 (i : Int)]] w (Gives ([UInt8.ofNat h] ++ putB 4 i) w) := by
 have m0 : IntKind.u8.wrap (h : Int) = (h : Int) := by rw [IntKind.wrap_u8]; omega
 have m1 : IntKind.u64.wrap (i : Int) = (i : Int) := by rw [IntKind.wrap_u64]; omega
 have hx : ((UInt8.ofNat h).toNat : Int) = (h : Int) := by simp; omega
 have hp := Lib.hid (put4_any i (by omega))
 have hfl : Hid ([[UInt8.ofNat h], putB 4 i].flatten = [UInt8.ofNat h] ++ putB 4 i) := by show _ = _; simp
 have hl4 := Lib.hid (putB_len 4 i)
 replace hx := Lib.hid hx
 go_enter Tryz.func211, Tryz.ntmps211
 go_wp2_with fail
 have hb0 := balloc w (.cells #[.int .i64 (h : Int), .int .i64 (i : Int)] 189)
 have hbx := Box.new w 189 [.int .i64 (h : Int), .int .i64 (i : Int)]
 change Code.wp _ _ _ _ (w.alloc (.cells #[.int .i64 (h : Int), .int .i64 (i : Int)] 189))
 have hlt : w.heap.size < (w.alloc (.cells #[.int .i64 (h : Int), .int .i64 (i : Int)] 189)).heap.size := hbx.lt
 generalize w.alloc (.cells #[.int .i64 (h : Int), .int .i64 (i : Int)] 189) = w0 at *
 have c0 : w0.cell? ⟨w.heap.size, 0, none⟩ = some (.int .i64 (h : Int)) := hbx.cell 0
 have c1 : w0.cell? ⟨w.heap.size, 1, none⟩ = some (.int .i64 (i : Int)) := hbx.cell 1
 have hg0 := Lib.hid (Eq.refl w.heap.size)
 obtain ⟨g0, hg⟩ : ∃ g0, g0 = w.heap.size := ⟨_, rfl⟩
 rw [← hg] at c0 c1 hlt ⊢
 replace hg := Lib.hid hg
 replace hb0 := Lib.hid hb0
 clear hbx hg0
 have K : Hid (∀ W : World, Below w0.heap.size w0 W → W.cell? ⟨g0, 0, none⟩ = some (.int .i64 (h : Int)) ∧ W.cell? ⟨g0, 1, none⟩ = some (.int .i64 (i : Int))) :=
  fun W hW => ⟨(hW.cell (p := ⟨g0, 0, none⟩) hlt).trans c0, (hW.cell (p := ⟨g0, 1, none⟩) hlt).trans c1⟩
 go_region_held3 (fun W' : World => W'.cell? ⟨g0, 0, none⟩ = some (.int .i64 (h : Int)) ∧ W'.cell? ⟨g0, 1, none⟩ = some (.int .i64 (i : Int)))
  (first | exact K.out _ hb3 | (refine K.out _ ?_; (repeat (first | exact Below.refl _ _ | (refine bgo ?_ (balloc _ _)) | (refine bgo ?_ (bdrew _)) | (refine bgo ?_ (by assumption)))); done) | (go_keep; done))
  (first
   | (go_at_call 70; refine (join_lit (vs := [_, _]) [[UInt8.ofNat h], putB 4 i] w0 _ _ ?_ ?_ ⟨?_, ?_, trivial⟩ (by simp) (by rw [hfl.out]; simp [hl4.out])).mono ?_
      focus (first | rfl | (simp; done))
      focus ((repeat (first | exact Below.refl _ _ | (refine bgo ?_ (balloc _ _)) | (refine bgo ?_ (bdrew _)) | (refine bgo ?_ (by assumption)))); done)
      focus (first | (refine seesB_of (one_byte w0 _ _ hx.out).sees (Nat.le_refl _) ?_; (repeat (first | exact Below.refl _ _ | (refine bgo ?_ (balloc _ _)) | (refine bgo ?_ (bdrew _)) | (refine bgo ?_ (by assumption)))); done) | (refine seesB_of (one_byte w1 _ _ hx.out).sees (Nat.le_refl _) ?_; (repeat (first | exact Below.refl _ _ | (refine bgo ?_ (balloc _ _)) | (refine bgo ?_ (bdrew _)) | (refine bgo ?_ (by assumption)))); done))
      focus (refine seesB_of h1.sees (Nat.le_refl _) ?_; (repeat (first | exact Below.refl _ _ | (refine bgo ?_ (balloc _ _)) | (refine bgo ?_ (bdrew _)) | (refine bgo ?_ (by assumption)))); done)
      rintro e w3 ⟨v3, rfl, h3, hb3⟩)
   | (go_at_call 74; refine (hp.out _).mono ?_; rintro e w1 ⟨v1, rfl, h1, hb1⟩; obtain ⟨A1, c1', rfl, -, -⟩ := h1.sees.mk_))
 all_goals
  go_wp2_with fail
  go_ret
  rw [hfl.out] at h3
  exact ⟨v3, rfl, h3.mono hb0.out.size, bgo hb0.out hb3⟩
theorem seesLL_two (W : World) (v1 v2 : Value) (l1 l2 : List Bs) (h1 : SeesL W W.heap.size v1 l1) (h2 : SeesL W W.heap.size v2 l2) (W2 : World) (hb : Below (W.alloc (.cells #[v1, v2] 30)).heap.size (W.alloc (.cells #[v1, v2] 30)) W2) :
 SeesLL W2 (W.alloc (.cells #[v1, v2] 30)).heap.size (.slice (some ⟨W.heap.size, 0, none⟩) 2 2) [l1, l2] := by
 have hbx := Box.below (Box.new W 30 [v1, v2]) hb
 have hal := balloc W (.cells #[v1, v2] 30)
 refine ⟨[v1, v2], ⟨rfl, _, 2, rfl, Nat.le_refl _, by unfold maxLen; omega, fun _ => ⟨W.heap.size, 0, rfl, by simp, fun j u hj => ?_⟩⟩, fun k hk => ?_⟩
 · rw [Nat.zero_add, hbx.cell j]; exact hj
 · have hh : ∀ {v : Value} {l : List Bs}, SeesL W W.heap.size v l → SeesL W2 (W.alloc (.cells #[v1, v2] 30)).heap.size v l := fun h => ((h.below hal).below (hb.mono hal.size)).more hal.size
   rcases (by simp at hk; omega : k = 0 ∨ k = 1) with rfl | rfl
   · exact ⟨v1, rfl, hh h1⟩
   · exact ⟨v2, rfl, hh h2⟩
theorem concat_lit (W : World) (v1 v2 : Value) (l1 l2 : List Bs) (h1 : SeesL W W.heap.size v1 l1) (h2 : SeesL W W.heap.size v2 l2) (hl : (l1 ++ l2).length ≤ 1048576) :
 Calls Tryz.prog 210 #[.slice (some ⟨W.heap.size, 0, none⟩) 2 2] (W.alloc (.cells #[v1, v2] 30)).drew fun e w' => ∃ v, e = .returned v ∧ OwnL w' W.heap.size v (l1 ++ l2) ∧ Below W.heap.size W w' := by
 have hfl : [l1, l2].flatten = l1 ++ l2 := by simp
 have h := concatL_any (W.alloc (.cells #[v1, v2] 30)).heap.size (.slice (some ⟨W.heap.size, 0, none⟩) 2 2) [l1, l2] (W.alloc (.cells #[v1, v2] 30)).drew
  (seesLL_two W v1 v2 l1 l2 h1 h2 _ (bdrew _)) (fun W3 h3 => seesLL_two W v1 v2 l1 l2 h1 h2 W3 ((bdrew _).trans h3)) (Nat.le_refl _) (by rw [hfl]; exact hl)
 rw [hfl] at h
 exact h.mono fun _ _ ⟨v, e, g1, g2⟩ => ⟨v, e, g1.mono (balloc W _).size, bgo (balloc W _) ((bdrew _).trans g2)⟩
set_option maxRecDepth 100000 in
theorem sigbytes_any (B : Nat) (u u2 : Value) (es ps : List Bs) (h i : Nat) (w : World) (hu : SeesL w B u es) (hu2 : SeesL w B u2 ps) (hB : B ≤ w.heap.size) (hh : h < 256) (hi : i < 4294967296) (he : 1 ≤ es.length) (hlen : es.length + ps.length ≤ 200) (hfl : (es ++ ps).flatten.length ≤ 1048576) :
 Calls Tryz.prog 141 #[.agg #[.int .i64 (h : Int), .int .i64 (i : Int), u, u2]] w (Gives ([UInt8.ofNat h] ++ putB 4 i ++ es.flatten ++ ps.flatten) w) := by
 obtain ⟨A, c, rfl, -, -⟩ := hu.mk_
 obtain ⟨AA, cc, rfl, -, -⟩ := hu2.mk_
 replace hu := Lib.hid hu
 replace hu2 := Lib.hid hu2
 have hl4 := Lib.hid (putB_len 4 i)
 have hsb := Lib.hid (fun W => sbegin_any h i W hh hi)
 go_enter Tryz.func141, Tryz.ntmps141
 go_wp2_with fail
 have hb0 := balloc w (.cells #[.int .i64 (h : Int), .int .i64 (i : Int), .slice A es.length c, .slice AA ps.length cc] 191)
 have hbx := Box.new w 191 [.int .i64 (h : Int), .int .i64 (i : Int), .slice A es.length c, .slice AA ps.length cc]
 change Code.wp _ _ _ _ (w.alloc (.cells #[.int .i64 (h : Int), .int .i64 (i : Int), .slice A es.length c, .slice AA ps.length cc] 191))
 have hlt : w.heap.size < (w.alloc (.cells #[.int .i64 (h : Int), .int .i64 (i : Int), .slice A es.length c, .slice AA ps.length cc] 191)).heap.size := hbx.lt
 generalize w.alloc (.cells #[.int .i64 (h : Int), .int .i64 (i : Int), .slice A es.length c, .slice AA ps.length cc] 191) = w0 at *
 have c0 : w0.cell? ⟨w.heap.size, 0, none⟩ = some (.int .i64 (h : Int)) := hbx.cell 0
 have c1 : w0.cell? ⟨w.heap.size, 1, none⟩ = some (.int .i64 (i : Int)) := hbx.cell 1
 have c2 : w0.cell? ⟨w.heap.size, 2, none⟩ = some (.slice A es.length c) := hbx.cell 2
 have c3 : w0.cell? ⟨w.heap.size, 3, none⟩ = some (.slice AA ps.length cc) := hbx.cell 3
 obtain ⟨g0, hg⟩ : ∃ g0, g0 = w.heap.size := ⟨_, rfl⟩
 rw [← hg] at c0 c1 c2 c3 hlt ⊢
 replace hg := Lib.hid hg
 have hcc := Lib.hid (concat_lit w0 _ _ _ _ (seesL_of hu.out hB hb0) (seesL_of hu2.out hB hb0) (by rw [List.length_append]; omega))
 replace hb0 := Lib.hid hb0
 clear hbx
 have hlen1 : 1 ≤ (es ++ ps).length ∧ (es ++ ps).length ≤ 200 := by rw [List.length_append]; omega
 have hfin : Hid (([[UInt8.ofNat h] ++ putB 4 i] ++ (es ++ ps)).flatten = [UInt8.ofNat h] ++ putB 4 i ++ es.flatten ++ ps.flatten) := by show _ = _; simp
 have hfl2 : Hid ((([UInt8.ofNat h] ++ putB 4 i) :: (es ++ ps)).flatten.length ≤ 1099511627776) := by show _ ≤ _; rw [List.flatten_cons, List.length_append]; simp [hl4.out] at hfl ⊢; omega
 generalize es ++ ps = ls at *
 generalize hhd : [UInt8.ofNat h] ++ putB 4 i = hd at *
 replace hhd := Lib.hid hhd
 have K : Hid (∀ W : World, Below w0.heap.size w0 W → W.cell? ⟨g0, 0, none⟩ = some (.int .i64 (h : Int)) ∧ W.cell? ⟨g0, 1, none⟩ = some (.int .i64 (i : Int)) ∧ W.cell? ⟨g0, 2, none⟩ = some (.slice A es.length c) ∧ W.cell? ⟨g0, 3, none⟩ = some (.slice AA ps.length cc)) :=
  fun W hW => ⟨(hW.cell (p := ⟨g0, 0, none⟩) hlt).trans c0, (hW.cell (p := ⟨g0, 1, none⟩) hlt).trans c1, (hW.cell (p := ⟨g0, 2, none⟩) hlt).trans c2, (hW.cell (p := ⟨g0, 3, none⟩) hlt).trans c3⟩
 go_region_held3 (fun W' : World => W'.cell? ⟨g0, 0, none⟩ = some (.int .i64 (h : Int)) ∧ W'.cell? ⟨g0, 1, none⟩ = some (.int .i64 (i : Int)) ∧ W'.cell? ⟨g0, 2, none⟩ = some (.slice A es.length c) ∧ W'.cell? ⟨g0, 3, none⟩ = some (.slice AA ps.length cc))
  (first | exact K.out _ hb4 | exact K.out _ hb3 | (refine K.out _ ?_; (repeat (first | exact Below.refl _ _ | (refine bgo ?_ (balloc _ _)) | (refine bgo ?_ (bdrew _)) | (refine bgo ?_ (by assumption)))); done) | (go_keep; done))
  (first
   | (go_at_call 142; refine (concat_any _ _ _ _ h3.sees (Nat.le_refl _) hfl2.out).mono ?_; rintro e w4 ⟨v4, rfl, h4, hb4⟩
      replace h4 := h4.mono hb3.size
      replace hb4 := bgo hb3 hb4)
   | (go_at_call 209
      refine (insert_any w0.heap.size g1 w2.heap.size ls.length c1' (.slice A2 hd.length c2') hd ls _ hrow hlen1.1 hlen1.2 (Box.new w2 25 [.slice A2 hd.length c2']) hgne hel (Nat.le_trans hb2'.size (balloc w2 _).size)).mono ?_
      rintro e w3 ⟨v3, rfl, h3, hb3'⟩
      have hb3 := (bgo hb2' (balloc w2 (.cells #[.slice A2 hd.length c2'] 25))).trans hb3'
      clear hb3')
   | (go_at_call 211; refine (hsb.out _).mono ?_; rintro e w2 ⟨v2, rfl, h2, hb2⟩
      have hb2' := bgo hb1 hb2
      have hrow := (h1.below hb2).below (balloc w2 (.cells #[v2] 25))
      have hel := (Elt.of_from (v := .slice (some ⟨g1, 0, none⟩) ls.length c1') h2.sees h2.from (fun k hk => (h1.lt k hk).2)).below (balloc w2 (.cells #[v2] 25))
      have hgne : w2.heap.size ≠ g1 := by have := (h1.lt g1 rfl).2; have := hb2.size; omega
      obtain ⟨A2, c2', rfl, -, -⟩ := h2.sees.mk_)
   | (go_at_call 210; refine hcc.out.mono ?_; rintro e w1 ⟨v1, rfl, h1, hb1⟩
      obtain ⟨A1, c1', rfl⟩ := h1.shape
      obtain ⟨g1, rfl⟩ := h1.at_ hlen1.1))
 all_goals
  go_wp2_with fail
  go_ret
  rw [show hd :: ls = [hd] ++ ls from rfl, hfin.out] at h4
  replace h4 := h4.mono hb0.out.size
  rw [← hhd.out] at h4
  exact ⟨v4, rfl, by simpa using h4, bgo hb0.out hb4⟩
set_option maxRecDepth 100000 in
theorem svalid_any (B : Nat) (u : Value) (seed : Bs) (h n : Int) (w : World) (hu : SeesB w B u seed) :
 Calls Tryz.prog 109 #[.agg #[u, .int .i64 h, .int .i64 n]] w (BoolPost (validI seed h n) w) := by
 obtain ⟨A, c, rfl, -, -⟩ := hu.mk_
 clear hu
 have hbb : ∀ k, Below w.heap.size w ((w.alloc (.cells #[.slice A seed.length c, .int .i64 h, .int .i64 n] 27)).drewN k) := fun k => below_drewN (balloc w _) k
 replace hbb := Lib.hid hbb
 by_cases hl : seed.length = 32
 · by_cases hh : 0 ≤ h ∧ h ≤ 6
   · by_cases hn : 0 ≤ n
     · have hv : Hid (validI seed h n = decide (n ≤ 2 ^ h.toNat)) := by show _ = _; simp [validI, hl, hh, hn]
       obtain ⟨h0, h1⟩ := hh
       obtain ⟨k, rfl⟩ := Int.eq_ofNat_of_zero_le h0
       rw [Int.toNat_natCast] at hv
       have hp := wrap_pow k (by omega)
       have hpc : ((2 ^ k : Nat) : Int) = (2 : Int) ^ k := by simp
       rw [← hpc] at hv
       replace hpc := Lib.hid hpc
       have hp64 := pow_le64 k (by omega)
       generalize 2 ^ k = N at *
       rw [hl] at hbb ⊢
       by_cases hN : n ≤ (N : Int)
       · go_enter Tryz.func109, Tryz.ntmps109
         go_wp2_with fail
         go_quiet ((go_at_call 180; exact Calls.quiet_of_same (tall_yes _ _ (by omega) (by omega))))
         go_wp2_with fail
         go_ret
         exact ⟨ret_bool (by rw [hv.out]; simp [hN]), hbb.out _⟩
       · go_enter Tryz.func109, Tryz.ntmps109
         go_wp2_with fail
         go_quiet ((go_at_call 180; exact Calls.quiet_of_same (tall_yes _ _ (by omega) (by omega))))
         go_wp2_with fail
         go_ret
         exact ⟨ret_bool (by rw [hv.out]), hbb.out _⟩
     · have hv : Hid (validI seed h n = false) := by show _ = _; simp [validI, hn]
       obtain ⟨h0, h1⟩ := hh
       rw [hl] at hbb ⊢
       have hn0 : decide (0 ≤ n) = false := by simpa using hn
       go_enter Tryz.func109, Tryz.ntmps109
       go_wp2_with fail
       go_quiet ((go_at_call 180; exact Calls.quiet_of_same (tall_yes _ _ (by omega) (by omega))))
       go_wp2_with fail
       go_ret
       exact ⟨ret_bool (by rw [hv.out]), hbb.out _⟩
   · have hv : Hid (validI seed h n = false) := by show _ = _; simp [validI]; omega
     rw [hl] at hbb ⊢
     go_enter Tryz.func109, Tryz.ntmps109
     go_wp2_with fail
     go_quiet ((go_at_call 180; exact Calls.quiet_of_same (tall_no _ _ (by omega))))
     go_wp2_with fail
     go_ret
     exact ⟨ret_bool (by rw [hv.out]), hbb.out _⟩
 · have hv : Hid (validI seed h n = false) := by show _ = _; simp [validI, hl]
   have hl2 : ((seed.length : Int) == 32) = false := by rw [beq_eq_false_iff_ne]; omega
   go_enter Tryz.func109, Tryz.ntmps109
   go_wp2_with fail
   go_quiet ((go_at_call 180; exact Calls.quiet_of_same (tall_no _ _ (by omega))))
   go_wp2_with fail
   go_ret
   exact ⟨ret_bool (by rw [hv.out]), hbb.out _⟩
theorem noByte4 (h i : Int) (a b : Value) (ha : ∀ n, a ≠ .int .u8 n) (hb : ∀ n, b ≠ .int .u8 n) : NoByte [.int .i64 h, .int .i64 i, a, b] := by
 intro x hx n e
 simp only [List.mem_cons, List.not_mem_nil, or_false] at hx
 rcases hx with rfl | rfl | rfl | rfl
 · cases e
 · cases e
 · exact ha n e
 · exact hb n e
set_option maxRecDepth 100000 in
set_option maxHeartbeats 4000000 in
theorem sign_ok (B : Nat) (u u2 : Value) (seed m : Bs) (h i : Nat) (w : World) (hu : SeesB w B u seed) (hu2 : SeesB w B u2 m) (hB : B ≤ w.heap.size) (hl : seed.length = 32) (hh : h ≤ 6) (hi : i < 2 ^ h) (hm : m.length ≤ 65535) :
 Calls Tryz.prog 69 #[.agg #[u, .int .i64 (h : Int), .int .i64 (i : Int)], u2] w (SignOk seed h i m w) := by
 obtain ⟨A, c, rfl, -, -⟩ := hu.mk_
 obtain ⟨AA, cc, rfl, -, -⟩ := hu2.mk_
 have hvI := validI_mk seed h i hl hh (Nat.le_of_lt hi)
 have hp := wrap_pow h hh
 have hp64 := pow_le64 h hh
 have hval := fun W (hW : SeesB W B (.slice A seed.length c) seed) => svalid_any B _ seed h i W hW
 rw [hvI] at hval
 have hlv := fun W (hW : SeesB W W.heap.size (.slice A seed.length c) seed) => leaves_any W.heap.size _ seed h W hW (Nat.le_refl _) hl hh
 have hclone := fun W (hW : SeesB W W.heap.size (.slice A seed.length c) seed) => clone_any W.heap.size _ seed W hW (Nat.le_refl _) (by omega)
 have hsg := fun W (v2 : Value) (d : Bs) (hd : d.length = 16) (hW : SeesB W W.heap.size (.slice A seed.length c) seed) (h2 : SeesB W W.heap.size v2 d) => otsign_any W.heap.size _ v2 seed d i W hW h2 (Nat.le_refl _) hl hd (by omega)
 have hdg := fun W (v2 : Value) (p : Bs) (hp : p.length = 32) (hW : SeesB W W.heap.size v2 p) (h2 : SeesB W W.heap.size (.slice AA m.length cc) m) => digest_any W.heap.size v2 _ p m i W hW h2 (Nat.le_refl _) (by omega) (by omega) (by omega)
 have hbytes := fun W (v1 v2 : Value) (es ps : List Bs) (h1 : SeesL W W.heap.size v1 es) (h2 : SeesL W W.heap.size v2 ps) => sigbytes_any W.heap.size v1 v2 es ps h i W h1 h2 (Nat.le_refl _) (by omega) (by omega)
 rw [hl] at hu hval hlv hclone hsg ⊢
 replace hu := Lib.hid hu
 replace hu2 := Lib.hid hu2
 replace hvI := Lib.hid hvI
 replace hval := Lib.hid hval
 replace hlv := Lib.hid hlv
 replace hclone := Lib.hid hclone
 replace hsg := Lib.hid hsg
 replace hdg := Lib.hid hdg
 replace hbytes := Lib.hid hbytes
 replace hl := Lib.hid hl
 have hkl := Lib.hid (keyG_len seed h)
 have hleaves := Lib.hid (leavesL_len seed (2 ^ h))
 have hsig : Hid ([UInt8.ofNat h] ++ putB 4 i ++ (signL seed i (digG (keyG seed h) i m)).flatten ++ (pathG (hashesG seed h) i).flatten = sigG seed h i m) := rfl
 have hkey : Hid (rootG ((leavesL seed (2 ^ h)).map leafH) = keyG seed h) := rfl
 have hpath : Hid (pathG ((leavesL seed (2 ^ h)).map leafH) i = pathG (hashesG seed h) i) := rfl
 have hel : Hid (∀ x ∈ leavesL seed (2 ^ h), x.length = 16) := leavesL_el seed _
 have hpl := Lib.hid (pathG_len h _ i (hashesG_len seed h))
 have hpe : Hid (∀ x ∈ pathG (hashesG seed h) i, x.length = 32) := pathG_el _ _ _ (Nat.le_refl _) (hashesG_el seed h)
 generalize leavesL seed (2 ^ h) = LV at *
 generalize hN : 2 ^ h = N at *
 have hi2 : ((i : Int) == (N : Int)) = false := by rw [beq_eq_false_iff_ne]; omega
 replace hN := Lib.hid hN
 go_enter Tryz.func69, Tryz.ntmps69
 go_wp2_with fail
 have hb0 : Below w.heap.size w ((w.alloc (.cells #[.slice A 32 c, .int .i64 (h : Int), .int .i64 (i : Int)] 27)).alloc (.cells #[.slice none 0 0, .int .i64 0, .int .i64 0] 27)) := bgo (balloc w _) (balloc _ _)
 have hx1 := Box.below (Box.new w 27 [.slice A 32 c, .int .i64 (h : Int), .int .i64 (i : Int)]) (balloc _ (.cells #[.slice none 0 0, .int .i64 0, .int .i64 0] 27))
 have hx2 := Box.new (w.alloc (.cells #[.slice A 32 c, .int .i64 (h : Int), .int .i64 (i : Int)] 27)) 27 [.slice none 0 0, .int .i64 0, .int .i64 0]
 have hz : (w.alloc (.cells #[.slice A 32 c, .int .i64 (h : Int), .int .i64 (i : Int)] 27)).heap.size = w.heap.size + 1 := World.size_alloc _ _
 rw [hz] at hx2
 change Box ((w.alloc (.cells #[.slice A 32 c, .int .i64 (h : Int), .int .i64 (i : Int)] 27)).alloc (.cells #[.slice none 0 0, .int .i64 0, .int .i64 0] 27)) _ _ _ at hx1 hx2
 generalize (w.alloc (.cells #[.slice A 32 c, .int .i64 (h : Int), .int .i64 (i : Int)] 27)).alloc (.cells #[.slice none 0 0, .int .i64 0, .int .i64 0] 27) = W0 at *
 clear hz
 obtain ⟨g, hg⟩ : ∃ g, g = w.heap.size := ⟨_, rfl⟩
 rw [← hg] at hx1 hx2 ⊢
 replace hg := Lib.hid hg
 replace hb0 := Lib.hid hb0
 refine (hval.out W0 (hu.out.below (hb0.out.mono hB))).mono ?_
 rintro e W1 ⟨rfl, hb1⟩
 replace hx1 := hx1.below hb1
 replace hx2 := hx2.below hb1
 replace hb1 := Lib.hid (bgo hb0.out hb1)
 have c0 : W1.cell? ⟨g, 0, none⟩ = some (.slice A 32 c) := hx1.cell 0
 have c1 : W1.cell? ⟨g, 1, none⟩ = some (.int .i64 (h : Int)) := hx1.cell 1
 have c2 : W1.cell? ⟨g, 2, none⟩ = some (.int .i64 (i : Int)) := hx1.cell 2
 clear hval hb0
 replace hx1 := Lib.hid hx1
 replace hx2 := Lib.hid hx2
 dsimp only
 go_wp2_with fail
 go_quiet (fail)
 go_wp2_with fail
 have hx1q : Box (W1.drewN nq) g 27 _ := hx1.out
 have hx2q : Box (W1.drewN nq) (g + 1) 27 _ := hx2.out
 have hb1q := below_drewN hb1.out nq
 clear hx1 hx2 hb1 c0 c1 c2
 generalize W1.drewN nq = W1 at *
 refine (hlv.out W1 (seesB_of (hu.out.more hB) (Nat.le_refl _) hb1q)).mono ?_
 rintro e W2 ⟨v2, rfl, h2, hb2⟩
 have hrt := root_top LV W2.heap.size v2 W2 h2.sees (Nat.le_refl _) (by rw [hleaves.out]; omega) (fun x hx => by rw [hel.out x hx]; omega)
 unfold RootPost at hrt
 rw [hkey.out] at hrt
 obtain ⟨A2, c2', rfl⟩ := h2.shape
 rw [hleaves.out] at hrt h2 ⊢
 replace hx1 := hx1q.below hb2
 replace hx2 := hx2q.below hb2
 replace hb2 := bgo hb1q hb2
 replace h2 := Lib.hid h2
 replace hrt := Lib.hid hrt
 clear hlv hx1q hx2q hb1q
 dsimp only
 go_wp2_with fail
 refine hrt.out.mono ?_
 rintro e W3 ⟨v3, rfl, h3, hb3⟩
 replace h2 := h2.out.below hb3
 replace hx1 := hx1.below hb3
 replace hx2 := hx2.below hb3
 replace hb3 := bgo hb2 hb3
 clear hb2 hrt
 have c0 : W3.cell? ⟨g, 0, none⟩ = some (.slice A 32 c) := hx1.cell 0
 have c1 : W3.cell? ⟨g, 1, none⟩ = some (.int .i64 (h : Int)) := hx1.cell 1
 have c2 : W3.cell? ⟨g, 2, none⟩ = some (.int .i64 (i : Int)) := hx1.cell 2
 obtain ⟨A3, c3, rfl, -, -⟩ := h3.sees.mk_
 rw [hkl.out] at h3 ⊢
 have hgl := hx1.lt
 have hgl2 := hx2.lt
 replace hx1 := Lib.hid hx1
 replace hx2 := Lib.hid hx2
 replace hb3 := Lib.hid hb3
 replace h3 := Lib.hid h3
 replace h2 := Lib.hid h2
 dsimp only
 go_wp2_with fail
 have hb4 := balloc W3 (.cells #[.int .i64 (h : Int), .int .i64 (i : Int), .slice none 0 0, .slice none 0 0] 191)
 have hx3 := Box.new W3 191 [.int .i64 (h : Int), .int .i64 (i : Int), .slice none 0 0, .slice none 0 0]
 have h24 := h2.out.below hb4
 have h34 := h3.out.below hb4
 have hx14 := hx1.out.below hb4
 have hx24 := hx2.out.below hb4
 have hb34 := bgo hb3.out hb4
 clear c0 c1 c2 h2 h3 hx1 hx2
 change Calls _ _ _ (W3.alloc (.cells #[.int .i64 (h : Int), .int .i64 (i : Int), .slice none 0 0, .slice none 0 0] 191)) _
 generalize W3.alloc (.cells #[.int .i64 (h : Int), .int .i64 (i : Int), .slice none 0 0, .slice none 0 0] 191) = W4 at *
 obtain ⟨G, hG⟩ : ∃ G, G = W3.heap.size := ⟨_, rfl⟩
 rw [← hG] at hx3 hgl hgl2 ⊢
 have hwG : w.heap.size ≤ G := by have := hb3.out.size; omega
 replace hG := Lib.hid hG
 have hpt := path_top LV i W4.heap.size (.slice A2 N c2') W4 h24.sees (by rw [hleaves.out]; exact hi) (Nat.le_refl _) (by rw [hleaves.out]; omega) (fun x hx => by rw [hel.out x hx]; omega)
 unfold PathPost at hpt
 rw [hpath.out] at hpt
 generalize pathG (hashesG seed h) i = PT at *
 refine hpt.mono ?_
 rintro e W5 ⟨v5, rfl, h5, hb5⟩
 obtain ⟨A5, c5, rfl⟩ := h5.shape
 rw [hpl.out] at h5 ⊢
 have hG4 := hx3.lt
 replace hx1 := hx14.below hb5
 replace hx2 := hx24.below hb5
 replace hx3 := hx3.below hb5
 replace h3 := h34.below hb5
 replace hb5 := bgo hb34 hb5
 have y3 : W5.cell? ⟨G, 3, none⟩ = some (.slice none 0 0) := hx3.cell 3
 have f3 := hx3.frozen 3
 clear hpt h24 hb4 h34 hx14 hx24 hb34 hb3
 replace hx1 := Lib.hid hx1
 replace hx2 := Lib.hid hx2
 replace hx3 := Lib.hid hx3
 replace hb5 := Lib.hid hb5
 replace h3 := Lib.hid h3
 replace h5 := Lib.hid h5
 dsimp only
 go_wp2_with fail
 have hno := noByte4 (h : Int) (i : Int) (.slice none 0 0) (.slice none 0 0) (fun n e => by cases e) (fun n e => by cases e)
 have h56 := h5.out.poke (j := 3) (v' := .slice A5 h c5) hG4 hx3.out hno
 have h36 := (SeesB.poke (j := 3) (v' := .slice A5 h c5) h3.out.sees hx3.out hno).more (B' := (W5.setCell ⟨G, 3, none⟩ (.slice A5 h c5)).heap.size) (by simp [World.setCell])
 have hx16 := hx1.out.other (j := 3) (v := .slice A5 h c5) (show g ≠ G by omega)
 have hx26 := hx2.out.other (j := 3) (v := .slice A5 h c5) (show g + 1 ≠ G by omega)
 have hx36 := hx3.out.set 3 (.slice A5 h c5)
 have hb6 : Below w.heap.size w (W5.setCell ⟨G, 3, none⟩ (.slice A5 h c5)) := hb5.out.setCell (p := ⟨G, 3, none⟩) hwG _
 simp only [List.set_cons_succ, List.set_cons_zero] at hx36
 clear h5 h3 hx1 hx2 hx3 hb5 y3 f3 hno
 generalize W5.setCell ⟨G, 3, none⟩ (.slice A5 h c5) = W6 at *
 have hg0 := Lib.hid (hdg.out W6.drew (.slice A3 32 c3) (keyG seed h) hkl.out h36 (seesB_of (hu2.out.more hB) (Nat.le_refl _) (hb6.drew)))
 have hd16 : Hid ((digG (keyG seed h) i m).length = 16) := short_len _
 generalize digG (keyG seed h) i m = DG at *
 have hsg2 : Hid (∀ W v2, Below W6.heap.size W6 W → SeesB W W.heap.size v2 DG → Calls Tryz.prog 138 #[.slice A 32 c, .int .i64 (i : Int), v2] W (OtSignPost (signL seed i DG) W)) :=
  fun W v2 hbW h2 => hsg.out W v2 DG hd16.out (seesB_of (hu.out.more hB) (Nat.le_refl _) (bgo hb6 hbW)) h2
 have K : Hid (∀ W : World, Below W6.heap.size W6 W → W.cell? ⟨g, 0, none⟩ = some (.slice A 32 c) ∧ W.cell? ⟨g, 2, none⟩ = some (.int .i64 (i : Int))) :=
  fun W hW => ⟨(hW.cell (p := ⟨g, 0, none⟩) hx16.lt).trans (hx16.cell 0), (hW.cell (p := ⟨g, 2, none⟩) hx16.lt).trans (hx16.cell 2)⟩
 have y0 : W6.cell? ⟨g, 0, none⟩ = some (.slice A 32 c) := hx16.cell 0
 have y2 : W6.cell? ⟨g, 2, none⟩ = some (.int .i64 (i : Int)) := hx16.cell 2
 have hgG : g ≠ G := by omega
 have hG6 := hx36.lt
 have z2 : Hid (∀ W : World, Below W6.heap.size W6 W → W.cell? ⟨G, 2, none⟩ = some (.slice none 0 0) ∧ W.frozen? ⟨G, 2, none⟩ = false) := fun W hW => ⟨(hx36.below hW).cell 2, (hx36.below hW).frozen 2⟩
 have K2 : Hid (∀ (W : World) (v : Value), Below W6.heap.size W6 W → (W.setCell ⟨G, 2, none⟩ v).cell? ⟨g, 0, none⟩ = some (.slice A 32 c) ∧ (W.setCell ⟨G, 2, none⟩ v).cell? ⟨g, 2, none⟩ = some (.int .i64 (i : Int))) :=
  fun W v hW => ⟨(World.cell?_setCell_other W _ _ v (fun e => by cases e)).trans (K.out W hW).1, (World.cell?_setCell_other W _ _ v (fun e => hgG (by cases e; rfl))).trans (K.out W hW).2⟩
 replace hx16 := Lib.hid hx16
 replace hx26 := Lib.hid hx26
 replace hx36 := Lib.hid hx36
 replace h56 := Lib.hid h56
 replace hb6 := Lib.hid hb6
 clear hdg hsg h36
 go_region_held3 (fun W' : World => W'.cell? ⟨g, 0, none⟩ = some (.slice A 32 c) ∧ W'.cell? ⟨g, 2, none⟩ = some (.int .i64 (i : Int)))
  (first | exact K.out _ hb8 | exact K2.out _ _ hb8 | exact K.out _ hb7 | (go_keep; done))
  (first
   | (go_at_call 138; refine (hsg2.out _ _ hb7 h7).mono ?_; rintro e W8 ⟨v8, rfl, h8, hb8⟩
      obtain ⟨A8, c8, rfl⟩ := h8.shape
      replace hb8 := bgo hb7 hb8
      obtain ⟨q2, q3⟩ := z2.out W8 hb8)
   | (go_at_call 139; refine hg0.out.mono ?_; rintro e W7 ⟨v7, rfl, h7, hb7, -⟩
      obtain ⟨A7, c7, rfl, -, -⟩ := h7.mk_
      replace hb7 := (bdrew W6).trans hb7))
 all_goals
  have hno := noByte4 (h : Int) (i : Int) (.slice none 0 0) (.slice A5 h c5) (fun n e => by cases e) (fun n e => by cases e)
  have hx1 := (hx16.out.below hb8).other (j := 2) (v := .slice A8 (signL seed i DG).length c8) hgG
  have hx2 := (hx26.out.below hb8).other (j := 2) (v := .slice A8 (signL seed i DG).length c8) (show g + 1 ≠ G by omega)
  have hx38 := hx36.out.below hb8
  have hx3 := hx38.set 2 (.slice A8 (signL seed i DG).length c8)
  simp only [List.set_cons_succ, List.set_cons_zero] at hx3
  have h89 := h8.poke (j := 2) (v' := .slice A8 (signL seed i DG).length c8) (Nat.lt_of_lt_of_le hG6 hb7.size) hx38 hno
  have h59 := (h56.out.below hb8).poke (j := 2) (v' := .slice A8 (signL seed i DG).length c8) hG4 hx38 hno
  have hb9 : Below w.heap.size w (W8.setCell ⟨G, 2, none⟩ (.slice A8 (signL seed i DG).length c8)) := (bgo hb6.out hb8).setCell (p := ⟨G, 2, none⟩) hwG _
  have hsl := signL_len seed i DG
  have hse := signL_el seed i DG
  clear hx16 hx26 hx36 hx38 h8 h56 hb8 hb7 h7 hno K K2 z2 q2 q3 hsg2 hg0 hb6
  generalize hSL : signL seed i DG = SL at *
  replace hSL := Lib.hid hSL
  rw [hsl] at hx1 hx2 hx3 h89 h59 hb9 ⊢
  replace hsl := Lib.hid hsl
  replace hse := Lib.hid hse
  generalize W8.setCell ⟨G, 2, none⟩ (.slice A8 35 c8) = W9 at *
  have K : Hid (∀ W : World, Below W9.heap.size W9 W → W.cell? ⟨g, 0, none⟩ = some (.slice A 32 c) ∧ W.cell? ⟨g, 1, none⟩ = some (.int .i64 (h : Int)) ∧ W.cell? ⟨g, 2, none⟩ = some (.int .i64 (i : Int)) ∧
   W.cell? ⟨G, 0, none⟩ = some (.int .i64 (h : Int)) ∧ W.cell? ⟨G, 1, none⟩ = some (.int .i64 (i : Int)) ∧ W.cell? ⟨G, 2, none⟩ = some (.slice A8 35 c8) ∧ W.cell? ⟨G, 3, none⟩ = some (.slice A5 h c5)) :=
   fun W hW => ⟨(hx1.below hW).cell 0, (hx1.below hW).cell 1, (hx1.below hW).cell 2, (hx3.below hW).cell 0, (hx3.below hW).cell 1, (hx3.below hW).cell 2, (hx3.below hW).cell 3⟩
  have K3 : Hid (∀ (W : World) (a b d : Value), Below W9.heap.size W9 W → (((W.setCell ⟨g + 1, 0, none⟩ a).setCell ⟨g + 1, 1, none⟩ b).setCell ⟨g + 1, 2, none⟩ d).cell? ⟨g, 0, none⟩ = some (.slice A 32 c) ∧ (((W.setCell ⟨g + 1, 0, none⟩ a).setCell ⟨g + 1, 1, none⟩ b).setCell ⟨g + 1, 2, none⟩ d).cell? ⟨g, 1, none⟩ = some (.int .i64 (h : Int)) ∧ (((W.setCell ⟨g + 1, 0, none⟩ a).setCell ⟨g + 1, 1, none⟩ b).setCell ⟨g + 1, 2, none⟩ d).cell? ⟨g, 2, none⟩ = some (.int .i64 (i : Int)) ∧
   (((W.setCell ⟨g + 1, 0, none⟩ a).setCell ⟨g + 1, 1, none⟩ b).setCell ⟨g + 1, 2, none⟩ d).cell? ⟨G, 0, none⟩ = some (.int .i64 (h : Int)) ∧ (((W.setCell ⟨g + 1, 0, none⟩ a).setCell ⟨g + 1, 1, none⟩ b).setCell ⟨g + 1, 2, none⟩ d).cell? ⟨G, 1, none⟩ = some (.int .i64 (i : Int)) ∧ (((W.setCell ⟨g + 1, 0, none⟩ a).setCell ⟨g + 1, 1, none⟩ b).setCell ⟨g + 1, 2, none⟩ d).cell? ⟨G, 2, none⟩ = some (.slice A8 35 c8) ∧ (((W.setCell ⟨g + 1, 0, none⟩ a).setCell ⟨g + 1, 1, none⟩ b).setCell ⟨g + 1, 2, none⟩ d).cell? ⟨G, 3, none⟩ = some (.slice A5 h c5)) :=
   fun W a b d hW => by
    obtain ⟨k0, k1, k2, k3, k4, k5, k6⟩ := K.out W hW
    have e1 : ∀ o, (⟨g, o, none⟩ : Addr).block ≠ g + 1 := fun o => by dsimp only; omega
    have e2 : ∀ o, (⟨G, o, none⟩ : Addr).block ≠ g + 1 := fun o => by dsimp only; omega
    exact ⟨(cell_set3 W _ _ (e1 0) a b d).trans k0, (cell_set3 W _ _ (e1 1) a b d).trans k1, (cell_set3 W _ _ (e1 2) a b d).trans k2, (cell_set3 W _ _ (e2 0) a b d).trans k3, (cell_set3 W _ _ (e2 1) a b d).trans k4, (cell_set3 W _ _ (e2 2) a b d).trans k5, (cell_set3 W _ _ (e2 3) a b d).trans k6⟩
  obtain ⟨y0, y1, y2, y3, y4, y5, y6⟩ := K.out W9 (Below.refl _ _)
  have Z : Hid (∀ W : World, Below W9.heap.size W9 W → Box W (g + 1) 27 [.slice none 0 0, .int .i64 0, .int .i64 0]) := fun W hW => hx2.below hW
  have hlt1 := hx2.lt
  have hcl := Lib.hid (hclone.out W9.drew (seesB_of (hu.out.more hB) (Nat.le_refl _) hb9.drew))
  have hby : Hid (∀ W, Below W9.heap.size W9 W → Calls Tryz.prog 141 #[.agg #[.int .i64 (h : Int), .int .i64 (i : Int), .slice A8 35 c8, .slice A5 h c5]] W (Gives (sigG seed h i m) W)) := fun W hW => by
   have := hbytes.out W (.slice A8 35 c8) (.slice A5 h c5) SL PT (h89.below hW).sees (h59.below hW).sees (by rw [hsl.out]; omega) (by rw [hsl.out, hpl.out]; omega) (by
    rw [List.flatten_append, List.length_append, flat_len 16 SL hse.out, flat_len 32 PT hpe.out, hsl.out, hpl.out]; omega)
   rw [hsig.out] at this
   exact this
  have m5 : IntKind.i64.wrap ((i : Int) + 1) = (i : Int) + 1 := by rw [IntKind.wrap_i64]; omega
  replace hb9 := Lib.hid hb9
  clear hx1 hx2 hx3 h89 h59 hclone hbytes hsig hpl hpe hsl hse hSL
  generalize hSG : sigG seed h i m = SG at *
  replace hSG := Lib.hid hSG
  go_wp2_with fail
  go_region_held3 (fun W' : World => W'.cell? ⟨g, 0, none⟩ = some (.slice A 32 c) ∧ W'.cell? ⟨g, 1, none⟩ = some (.int .i64 (h : Int)) ∧ W'.cell? ⟨g, 2, none⟩ = some (.int .i64 (i : Int)) ∧
   W'.cell? ⟨G, 0, none⟩ = some (.int .i64 (h : Int)) ∧ W'.cell? ⟨G, 1, none⟩ = some (.int .i64 (i : Int)) ∧ W'.cell? ⟨G, 2, none⟩ = some (.slice A8 35 c8) ∧ W'.cell? ⟨G, 3, none⟩ = some (.slice A5 h c5))
   (first | exact K.out _ hb11 | exact K3.out _ _ _ _ hb11 | exact K.out _ hb10 | (go_keep; done))
   (first
    | (go_at_call 141; refine (hby.out _ hb10).mono ?_; rintro e W11 ⟨v11, rfl, h11, hb11⟩
       obtain ⟨A11, c11, rfl, -, -⟩ := h11.sees.mk_
       replace h10 := h10.below hb11
       have hbs := hb10.size
       replace hb11 := bgo hb10 hb11
       have hz := Z.out W11 hb11
       have z0 : W11.cell? ⟨g + 1, 0, none⟩ = some (.slice none 0 0) := hz.cell 0
       have z1 : W11.cell? ⟨g + 1, 1, none⟩ = some (.int .i64 0) := hz.cell 1
       have z2 : W11.cell? ⟨g + 1, 2, none⟩ = some (.int .i64 0) := hz.cell 2
       have f0 := hz.frozen 0
       have f1 := hz.frozen 1
       have f2 := hz.frozen 2)
    | (go_at_call 140; refine hcl.out.mono ?_; rintro e W10 ⟨v10, rfl, h10, hb10⟩
       obtain ⟨A10, c10, rfl, -, -⟩ := h10.sees.mk_
       replace hb10 := (bdrew W9).trans hb10))
  all_goals
   have k10 : OwnB (((W11.setCell ⟨g + 1, 0, none⟩ (.slice A10 seed.length c10)).setCell ⟨g + 1, 1, none⟩ (.int .i64 (h : Int))).setCell ⟨g + 1, 2, none⟩ (.int .i64 ((i : Int) + 1))) W9.heap.size (.slice A10 seed.length c10) seed :=
    ownsRow_setCell_below (ownsRow_setCell_below (ownsRow_setCell_below h10 (by dsimp only; exact hlt1) _) (by dsimp only; exact hlt1) _) (by dsimp only; exact hlt1) _
   have k11 : OwnB (((W11.setCell ⟨g + 1, 0, none⟩ (.slice A10 seed.length c10)).setCell ⟨g + 1, 1, none⟩ (.int .i64 (h : Int))).setCell ⟨g + 1, 2, none⟩ (.int .i64 ((i : Int) + 1))) W10.heap.size (.slice A11 SG.length c11) SG :=
    ownsRow_setCell_below (ownsRow_setCell_below (ownsRow_setCell_below h11 (by dsimp only; omega) _) (by dsimp only; omega) _) (by dsimp only; omega) _
   have kz := ((hz.set 0 (.slice A10 seed.length c10)).set 1 (.int .i64 (h : Int))).set 2 (.int .i64 ((i : Int) + 1))
   simp only [List.set_cons_succ, List.set_cons_zero] at kz
   have hgw : w.heap.size ≤ g + 1 := by have := hg.out; omega
   have hend : Below w.heap.size w (((W11.setCell ⟨g + 1, 0, none⟩ (.slice A10 seed.length c10)).setCell ⟨g + 1, 1, none⟩ (.int .i64 (h : Int))).setCell ⟨g + 1, 2, none⟩ (.int .i64 ((i : Int) + 1))) :=
    (((bgo hb9.out hb11).setCell (p := ⟨g + 1, 0, none⟩) hgw _).setCell (p := ⟨g + 1, 1, none⟩) hgw _).setCell (p := ⟨g + 1, 2, none⟩) hgw _
   clear h10 h11 hz z0 z1 z2 f0 f1 f2 hb11 K K3 Z
   generalize ((W11.setCell ⟨g + 1, 0, none⟩ (.slice A10 seed.length c10)).setCell ⟨g + 1, 1, none⟩ (.int .i64 (h : Int))).setCell ⟨g + 1, 2, none⟩ (.int .i64 ((i : Int) + 1)) = W12 at *
   have z0 : W12.cell? ⟨g + 1, 0, none⟩ = some (.slice A10 seed.length c10) := kz.cell 0
   have z1 : W12.cell? ⟨g + 1, 1, none⟩ = some (.int .i64 (h : Int)) := kz.cell 1
   have z2 : W12.cell? ⟨g + 1, 2, none⟩ = some (.int .i64 ((i : Int) + 1)) := kz.cell 2
   go_wp2_with fail
   refine bodyPost_ret (v := .tuple #[.agg #[.slice A10 seed.length c10, .int .i64 (h : Int), .int .i64 ((i : Int) + 1)], .slice A11 SG.length c11, .int .i64 0]) (by simp [results, Tryz.results69, go_sem, z0, z1, z2]) rfl ?_
   exact ⟨_, _, rfl, k10.sees, by rw [hSG.out]; exact k11.sees, hend⟩
set_option maxRecDepth 100000 in
theorem sign_bad3 (B : Nat) (u u2 : Value) (seed : Bs) (h n : Int) (w : World) (hu : SeesB w B u seed) (hB : B ≤ w.heap.size) (hv : validI seed h n = false) :
 Calls Tryz.prog 69 #[.agg #[u, .int .i64 h, .int .i64 n], u2] w (SignBad 3 w) := by
 obtain ⟨A, c, rfl, -, -⟩ := hu.mk_
 have hval := fun W (hW : SeesB W B (.slice A seed.length c) seed) => svalid_any B _ seed h n W hW
 rw [hv] at hval
 replace hval := Lib.hid hval
 replace hv := Lib.hid hv
 replace hu := Lib.hid hu
 go_enter Tryz.func69, Tryz.ntmps69
 go_wp2_with fail
 have hb0 : Below w.heap.size w ((w.alloc (.cells #[.slice A seed.length c, .int .i64 h, .int .i64 n] 27)).alloc (.cells #[.slice none 0 0, .int .i64 0, .int .i64 0] 27)) := bgo (balloc w _) (balloc _ _)
 have hx1 := Box.below (Box.new w 27 [.slice A seed.length c, .int .i64 h, .int .i64 n]) (balloc _ (.cells #[.slice none 0 0, .int .i64 0, .int .i64 0] 27))
 have hx2 := Box.new (w.alloc (.cells #[.slice A seed.length c, .int .i64 h, .int .i64 n] 27)) 27 [.slice none 0 0, .int .i64 0, .int .i64 0]
 have hz : (w.alloc (.cells #[.slice A seed.length c, .int .i64 h, .int .i64 n] 27)).heap.size = w.heap.size + 1 := World.size_alloc _ _
 rw [hz] at hx2
 change Box ((w.alloc (.cells #[.slice A seed.length c, .int .i64 h, .int .i64 n] 27)).alloc (.cells #[.slice none 0 0, .int .i64 0, .int .i64 0] 27)) _ _ _ at hx1 hx2
 generalize (w.alloc (.cells #[.slice A seed.length c, .int .i64 h, .int .i64 n] 27)).alloc (.cells #[.slice none 0 0, .int .i64 0, .int .i64 0] 27) = W0 at *
 clear hz
 obtain ⟨g, hg⟩ : ∃ g, g = w.heap.size := ⟨_, rfl⟩
 rw [← hg] at hx1 hx2 ⊢
 replace hg := Lib.hid hg
 replace hb0 := Lib.hid hb0
 refine (hval.out W0 (hu.out.below (hb0.out.mono hB))).mono ?_
 rintro e W1 ⟨rfl, hb1⟩
 replace hx1 := hx1.below hb1
 replace hx2 := hx2.below hb1
 replace hb1 := bgo hb0.out hb1
 have z0 : W1.cell? ⟨g + 1, 0, none⟩ = some (.slice none 0 0) := hx2.cell 0
 have z1 : W1.cell? ⟨g + 1, 1, none⟩ = some (.int .i64 0) := hx2.cell 1
 have z2 : W1.cell? ⟨g + 1, 2, none⟩ = some (.int .i64 0) := hx2.cell 2
 have f0 := hx2.frozen 0
 have f1 := hx2.frozen 1
 have f2 := hx2.frozen 2
 have kz := ((hx2.set 0 (.slice none 0 0)).set 1 (.int .i64 0)).set 2 (.int .i64 0)
 simp only [List.set_cons_succ, List.set_cons_zero] at kz
 have hgw : w.heap.size ≤ g + 1 := by have := hg.out; omega
 have hlt := hx2.lt
 have hend : Below w.heap.size w (((W1.setCell ⟨g + 1, 0, none⟩ (.slice none 0 0)).setCell ⟨g + 1, 1, none⟩ (.int .i64 0)).setCell ⟨g + 1, 2, none⟩ (.int .i64 0)) :=
  ((hb1.setCell (p := ⟨g + 1, 0, none⟩) hgw _).setCell (p := ⟨g + 1, 1, none⟩) hgw _).setCell (p := ⟨g + 1, 2, none⟩) hgw _
 replace kz := Lib.hid kz
 replace hend := Lib.hid hend
 clear hx1 hx2 hb1 hval hb0
 dsimp only
 go_wp2_with fail
 have kz2 := kz.out
 have hend2 := hend.out
 clear kz hend z0 z1 z2 f0 f1 f2
 generalize ((W1.setCell ⟨g + 1, 0, none⟩ (.slice none 0 0)).setCell ⟨g + 1, 1, none⟩ (.int .i64 0)).setCell ⟨g + 1, 2, none⟩ (.int .i64 0) = W2 at *
 have z0 : W2.cell? ⟨g + 1, 0, none⟩ = some (.slice none 0 0) := kz2.cell 0
 have z1 : W2.cell? ⟨g + 1, 1, none⟩ = some (.int .i64 0) := kz2.cell 1
 have z2 : W2.cell? ⟨g + 1, 2, none⟩ = some (.int .i64 0) := kz2.cell 2
 refine bodyPost_ret (v := .tuple #[.agg #[.slice none 0 0, .int .i64 0, .int .i64 0], .slice none 0 0, .int .i64 3]) (by simp [results, Tryz.results69, go_sem, z0, z1, z2]) rfl ?_
 exact ⟨rfl, hend2⟩
set_option maxRecDepth 100000 in
theorem sign_bad7 (B : Nat) (u u2 : Value) (seed : Bs) (k : Nat) (w : World) (hu : SeesB w B u seed) (hB : B ≤ w.heap.size) (hl : seed.length = 32) (hk : k ≤ 6) :
 Calls Tryz.prog 69 #[.agg #[u, .int .i64 (k : Int), .int .i64 ((2 ^ k : Nat) : Int)], u2] w (SignBad 7 w) := by
 have hv := validI_mk seed k (2 ^ k) hl hk (Nat.le_refl _)
 clear hl
 have hp := wrap_pow k hk
 have hp64 := pow_le64 k hk
 have m0 : IntKind.u64.wrap (k : Int) = (k : Int) := by rw [IntKind.wrap_u64]; omega
 generalize 2 ^ k = N at *
 obtain ⟨A, c, rfl, -, -⟩ := hu.mk_
 have hval := fun W (hW : SeesB W B (.slice A seed.length c) seed) => svalid_any B _ seed k N W hW
 rw [hv] at hval
 replace hval := Lib.hid hval
 replace hv := Lib.hid hv
 replace hu := Lib.hid hu
 go_enter Tryz.func69, Tryz.ntmps69
 go_wp2_with fail
 have hb0 : Below w.heap.size w ((w.alloc (.cells #[.slice A seed.length c, .int .i64 (k : Int), .int .i64 (N : Int)] 27)).alloc (.cells #[.slice none 0 0, .int .i64 0, .int .i64 0] 27)) := bgo (balloc w _) (balloc _ _)
 have hx1 := Box.below (Box.new w 27 [.slice A seed.length c, .int .i64 (k : Int), .int .i64 (N : Int)]) (balloc _ (.cells #[.slice none 0 0, .int .i64 0, .int .i64 0] 27))
 have hx2 := Box.new (w.alloc (.cells #[.slice A seed.length c, .int .i64 (k : Int), .int .i64 (N : Int)] 27)) 27 [.slice none 0 0, .int .i64 0, .int .i64 0]
 have hz : (w.alloc (.cells #[.slice A seed.length c, .int .i64 (k : Int), .int .i64 (N : Int)] 27)).heap.size = w.heap.size + 1 := World.size_alloc _ _
 rw [hz] at hx2
 change Box ((w.alloc (.cells #[.slice A seed.length c, .int .i64 (k : Int), .int .i64 (N : Int)] 27)).alloc (.cells #[.slice none 0 0, .int .i64 0, .int .i64 0] 27)) _ _ _ at hx1 hx2
 generalize (w.alloc (.cells #[.slice A seed.length c, .int .i64 (k : Int), .int .i64 (N : Int)] 27)).alloc (.cells #[.slice none 0 0, .int .i64 0, .int .i64 0] 27) = W0 at *
 clear hz
 obtain ⟨g, hg⟩ : ∃ g, g = w.heap.size := ⟨_, rfl⟩
 rw [← hg] at hx1 hx2 ⊢
 replace hg := Lib.hid hg
 replace hb0 := Lib.hid hb0
 refine (hval.out W0 (hu.out.below (hb0.out.mono hB))).mono ?_
 rintro e W1 ⟨rfl, hb1⟩
 replace hx1 := hx1.below hb1
 replace hx2 := hx2.below hb1
 replace hb1 := bgo hb0.out hb1
 have c1 : W1.cell? ⟨g, 1, none⟩ = some (.int .i64 (k : Int)) := hx1.cell 1
 have c2 : W1.cell? ⟨g, 2, none⟩ = some (.int .i64 (N : Int)) := hx1.cell 2
 clear hb0 hval
 replace hx1 := Lib.hid hx1
 replace hx2 := Lib.hid hx2
 replace hb1 := Lib.hid hb1
 dsimp only
 go_wp2_with fail
 go_quiet (fail)
 have hx2q : Box (W1.drewN nq) (g + 1) 27 _ := hx2.out
 have hb1q := below_drewN hb1.out nq
 clear c1 c2 hx1 hx2 hb1
 generalize W1.drewN nq = W1 at *
 have hx2 := hx2q
 have hb1 := hb1q
 clear hx2q hb1q
 have z0 : W1.cell? ⟨g + 1, 0, none⟩ = some (.slice none 0 0) := hx2.cell 0
 have z1 : W1.cell? ⟨g + 1, 1, none⟩ = some (.int .i64 0) := hx2.cell 1
 have z2 : W1.cell? ⟨g + 1, 2, none⟩ = some (.int .i64 0) := hx2.cell 2
 have f0 := hx2.frozen 0
 have f1 := hx2.frozen 1
 have f2 := hx2.frozen 2
 have kz := ((hx2.set 0 (.slice none 0 0)).set 1 (.int .i64 0)).set 2 (.int .i64 0)
 simp only [List.set_cons_succ, List.set_cons_zero] at kz
 have hgw : w.heap.size ≤ g + 1 := by have := hg.out; omega
 have hlt := hx2.lt
 have hend : Below w.heap.size w (((W1.setCell ⟨g + 1, 0, none⟩ (.slice none 0 0)).setCell ⟨g + 1, 1, none⟩ (.int .i64 0)).setCell ⟨g + 1, 2, none⟩ (.int .i64 0)) :=
  ((hb1.setCell (p := ⟨g + 1, 0, none⟩) hgw _).setCell (p := ⟨g + 1, 1, none⟩) hgw _).setCell (p := ⟨g + 1, 2, none⟩) hgw _
 replace kz := Lib.hid kz
 replace hend := Lib.hid hend
 clear hx2 hb1
 go_wp2_with fail
 have kz2 := kz.out
 have hend2 := hend.out
 clear kz hend z0 z1 z2 f0 f1 f2
 generalize ((W1.setCell ⟨g + 1, 0, none⟩ (.slice none 0 0)).setCell ⟨g + 1, 1, none⟩ (.int .i64 0)).setCell ⟨g + 1, 2, none⟩ (.int .i64 0) = W2 at *
 have z0 : W2.cell? ⟨g + 1, 0, none⟩ = some (.slice none 0 0) := kz2.cell 0
 have z1 : W2.cell? ⟨g + 1, 1, none⟩ = some (.int .i64 0) := kz2.cell 1
 have z2 : W2.cell? ⟨g + 1, 2, none⟩ = some (.int .i64 0) := kz2.cell 2
 refine bodyPost_ret (v := .tuple #[.agg #[.slice none 0 0, .int .i64 0, .int .i64 0], .slice none 0 0, .int .i64 7]) (by simp [results, Tryz.results69, go_sem, z0, z1, z2]) rfl ?_
 exact ⟨rfl, hend2⟩
theorem sign_all (B : Nat) (u u2 : Value) (seed m : Bs) (h n : Int) (w : World) (hu : SeesB w B u seed) (hu2 : SeesB w B u2 m) (hB : B ≤ w.heap.size) (hm : m.length ≤ 65535) :
 Calls Tryz.prog 69 #[.agg #[u, .int .i64 h, .int .i64 n], u2] w (SignPost (signAll seed h n m) w) := by
 by_cases hv : validI seed h n = true
 · have hh : seed.length = 32 ∧ 0 ≤ h ∧ h ≤ 6 ∧ 0 ≤ n ∧ n ≤ 2 ^ h.toNat := by simp [validI] at hv; omega
   obtain ⟨hl, h0, h1, h2, h3⟩ := hh
   obtain ⟨k, rfl⟩ := Int.eq_ofNat_of_zero_le h0
   obtain ⟨i, rfl⟩ := Int.eq_ofNat_of_zero_le h2
   rw [Int.toNat_natCast] at h3
   have hpc : ((2 ^ k : Nat) : Int) = (2 : Int) ^ k := by simp
   by_cases hn : (i : Int) = 2 ^ k
   · have : signAll seed k i m = ([], 0, 0, [], 7) := by
      rw [signAll, if_pos hv, if_pos (by rw [Int.toNat_natCast]; exact hn)]
     rw [this, hn, ← hpc]
     exact (sign_bad7 B u u2 seed k w hu hB hl (by omega)).mono fun _ _ h => signBad_post h
   · have : signAll seed k i m = (seed, (k : Int), (i : Int) + 1, sigG seed k i m, 0) := by simp [signAll, hv, hn]
     rw [this]
     exact (sign_ok B u u2 seed m k i w hu hu2 hB hl (by omega) (by omega) hm).mono fun _ _ h => signOk_post h
 · have : signAll seed h n m = ([], 0, 0, [], 3) := by simp [signAll, hv]
   rw [this]
   exact (sign_bad3 B u u2 seed h n w hu hB (by simpa using hv)).mono fun _ _ h => signBad_post h
end Go.Proofs.YtjgepckncogdaaaGreat

/- What a law leans on beyond the base: contracts, plain functions, walks. Conditions: those of each theorem. -/
import Derived.Test.YtgehkgjllhkhoaaGreatLC1
import Derived.Test.YtgehkgjllhkhoaaGreatH27
namespace Go.Proofs.YtgehkgjllhkhoaaGreat
open Go.RowKit
set_option linter.unusedVariables false
attribute [local go_sem ↓] Go.wp_at_zero Go.wp_at_succ
theorem chk1_any (A : Option Addr) (n c : Nat) (w : World) : Calls Tryz.prog 136 #[.slice A n c] w fun e w' => e = .returned (.bool (!decide ((n : Int) = 32))) ∧ w' = w := by
 go_enter Tryz.func136, Tryz.ntmps136
 go_wp2_with fail
 go_ret
 exact ⟨by by_cases h : (n : Int) = 32 <;> simp [h], rfl⟩
set_option maxRecDepth 100000 in
theorem idx_any (B : Nat) (u : Value) (ls : List Bs) (w : World) (hu : SeesL w B u ls) (hB : B ≤ w.heap.size) (hn : ls.length ≤ 1048576) :
 Calls Tryz.prog 161 #[u, .func (.func 136) #[] #[]] w fun e w' => (∃ i : Int, e = .returned (.int .i64 i) ∧ decide (0 ≤ i) = !(all32 ls)) ∧ Below w.heap.size w w' := by
 obtain ⟨A, c, rfl, -, -⟩ := hu.mk_
 replace hu := Lib.hid hu
 go_enter Tryz.func161, Tryz.ntmps161
 go_wp2_with fail
 go_loopw [8] (fun t wr => ∃ k : Nat, k ≤ ls.length ∧ t = .int .i64 k ∧ Hid (all32 (ls.take k) = true) ∧ Hid (Below w.heap.size w wr)) (fun t _ => ls.length - (intOf t).toNat)
 case atStart => exact ⟨0, by omega, rfl, rfl, Below.refl _ _⟩
 case round =>
  obtain ⟨k, hk, rfl, ha, hb⟩ := hrel
  by_cases hlt : k < ls.length
  · obtain ⟨b, o, rfl, hbB, hds⟩ := (hu.out.below (hb.out.mono hB)).at_ (by omega)
    obtain ⟨A', c', y1, -, -, sd⟩ := hds k hlt
    have hdk : ls[k]? = some (ls.getD k []) := by rw [List.getD_eq_getElem?_getD, List.getElem?_eq_getElem hlt]; rfl
    have hst := Lib.hid (all32_take ls k _ hdk)
    generalize hda : ls.getD k [] = da at *
    have i0 : (k : Int) < (ls.length : Int) := by omega
    have hmem : Hid (da ∈ ls) := by show _ ∈ _; exact List.mem_of_getElem? hdk
    have hc1 := Lib.hid (fun W => chk1_any A' da.length c' W)
    replace hda := Lib.hid hda
    replace hdk := Lib.hid hdk
    clear hds sd
    go_wp2_with fail
    refine (hc1.out wr).mono ?_
    rintro e w1 ⟨rfl, hw⟩
    obtain rfl := hw.symm
    dsimp only
    by_cases h32 : da.length = 32
    · have hd : (!decide ((da.length : Int) = 32)) = false := by simp; omega
      rw [hd]
      have hst2 : Hid (all32 (ls.take (k + 1)) = true) := by show _ = _; rw [hst.out, ha.out]; simp [h32]
      clear hd
      replace h32 := Lib.hid h32
      go_wp2_with fail
      go_roundw
      case rel => exact ⟨k + 1, by omega, by go_num, hst2, hb⟩
      case measure => simp [intOf]; omega
    · have hd : (!decide ((da.length : Int) = 32)) = true := by simp; omega
      rw [hd]
      have hno : Hid (all32 ls = false) := by
       show _ = _
       cases h : all32 ls with
       | false => rfl
       | true => exact absurd (all32_each h da hmem.out) h32
      clear hd
      replace h32 := Lib.hid h32
      go_wp2_with fail
      go_returns
      exact ⟨⟨_, rfl, by rw [hno.out]; simp⟩, hb.out⟩
  · have i0 : ¬ (k : Int) < (ls.length : Int) := by omega
    rw [List.take_of_length_le (by omega)] at ha
    go_wp2_with fail
    go_returns
    exact ⟨⟨_, rfl, by rw [ha.out]; rfl⟩, hb.out⟩
theorem cont_any (B : Nat) (u : Value) (ls : List Bs) (w : World) (hu : SeesL w B u ls) (hB : B ≤ w.heap.size) (hn : ls.length ≤ 1048576) :
 Calls Tryz.prog 89 #[u, .func (.func 136) #[] #[]] w (BoolPost (!(all32 ls)) w) := by
 have hi := Lib.hid (idx_any B u ls w hu hB hn)
 obtain ⟨A, c, rfl, -, -⟩ := hu.mk_
 clear hu
 go_enter Tryz.func89, Tryz.ntmps89
 go_wp2_with fail
 refine hi.out.mono ?_
 rintro e w1 ⟨⟨i, rfl, hd⟩, hb⟩
 replace hd := Lib.hid hd
 dsimp only
 go_wp2_with fail
 go_ret
 exact ⟨by rw [← hd.out]; rfl, hb⟩
set_option maxRecDepth 100000 in
theorem bcheck_any (B : Nat) (u u2 : Value) (sd : Bs) (h n : Int) (ns : List Bs) (lo hi : Int) (w : World) (hu : SeesB w B u sd) (hu2 : SeesL w B u2 ns) (hB : B ≤ w.heap.size) :
 Calls Tryz.prog 71 #[.agg #[u, .int .i64 h, .int .i64 n], u2, .agg #[.int .i64 lo, .int .i64 hi]] w fun e w' => e = .returned (.int .i64 (bchkC sd h n ns lo hi)) ∧ Below w.heap.size w w' := by
 obtain ⟨A, c, rfl, -, -⟩ := hu.mk_
 obtain ⟨A2, c2, rfl, -, -⟩ := hu2.mk_
 have hC : Hid (∀ x : Int, bchkC sd h n ns lo hi = x → bchkC sd h n ns lo hi = x) := fun _ h => h
 have hal := bgo (balloc w (.cells #[.slice A sd.length c, .int .i64 h, .int .i64 n] 43)) (balloc _ (.cells #[.int .i64 lo, .int .i64 hi] 23))
 have hva := Lib.hid (svalid_any _ (.slice A sd.length c) sd h n _ (seesB_of hu hB hal))
 have hls := Lib.hid (fun W (hW : Below w.heap.size w W) (hn : ns.length ≤ 1048576) => cont_any B _ ns W (hu2.below (hW.mono hB)) (Nat.le_trans hB hW.size) hn)
 have hvs := Lib.hid (fun W => valid_any lo hi W)
 have x3 := (Box.new w 43 [.slice A sd.length c, .int .i64 h, .int .i64 n]).below (balloc _ (.cells #[.int .i64 lo, .int .i64 hi] 23))
 have x5 := Box.new (w.alloc (.cells #[.slice A sd.length c, .int .i64 h, .int .i64 n] 43)) 23 [.int .i64 lo, .int .i64 hi]
 rw [World.size_alloc] at x5
 have c0 := x3.cell 0
 have c1 := x3.cell 1
 have c2' := x3.cell 2
 simp only [List.getElem?_cons_zero, List.getElem?_cons_succ] at c0 c1 c2'
 have x5' := Lib.hid x5
 replace hal := Lib.hid hal
 clear hu hu2 x3 x5
 go_enter Tryz.func71, Tryz.ntmps71
 go_upto_region 1 with (fail)
 generalize (w.alloc (.cells #[.slice A sd.length c, .int .i64 h, .int .i64 n] 43)).alloc (.cells #[.int .i64 lo, .int .i64 hi] 23) = W at *
 generalize w.heap.size + 1 = g5 at *
 go_wp2_with fail
 refine hva.out.mono ?_
 rintro e w1 ⟨rfl, hb1⟩
 have hbw := Lib.hid (bgo hal.out hb1)
 have x5 := x5'.out.below hb1
 clear c0 c1 c2' hva x5'
 dsimp only
 cases hV : validI sd h n with
 | false =>
   have hr : Hid (bchkC sd h n ns lo hi = 3) := by show _ = _; rw [bchkC, hV]; rfl
   clear x5
   go_wp2_with fail
   go_returns
   exact ⟨by rw [hr.out]; rfl, hbw.out⟩
 | true =>
   by_cases h8 : ns.length < 1 ∨ 16 < ns.length
   · have hr : Hid (bchkC sd h n ns lo hi = 8) := by show _ = _; rw [bchkC, if_pos hV, if_pos h8]
     clear x5
     rcases h8 with h8 | h8
     · have i0 : (ns.length : Int) < 1 := by omega
       go_wp2_with fail
       go_returns
       exact ⟨by rw [hr.out]; rfl, hbw.out⟩
     · have i0 : ¬ (ns.length : Int) < 1 := by omega
       have i1 : (16 : Int) < (ns.length : Int) := by omega
       go_wp2_with fail
       go_returns
       exact ⟨by rw [hr.out]; rfl, hbw.out⟩
   · have i0 : ¬ (ns.length : Int) < 1 := by omega
     have i1 : ¬ (16 : Int) < (ns.length : Int) := by omega
     have hr : Hid (bchkC sd h n ns lo hi = if (vS lo hi && all32 ns) = true then 0 else 3) := by show _ = _; rw [bchkC, if_pos hV, if_neg h8]
     have y0 := x5.cell 0
     have y1 := x5.cell 1
     simp only [List.getElem?_cons_zero, List.getElem?_cons_succ] at y0 y1
     replace h8 := Lib.hid h8
     replace hV := Lib.hid hV
     clear x5
     go_wp2_with fail
     refine (hvs.out _).mono ?_
     rintro e w2 ⟨rfl, hb2⟩
     replace hbw := Lib.hid (bgo hbw.out hb2)
     clear y0 y1
     dsimp only
     cases hv : vS lo hi with
     | false =>
       rw [hv] at hr
       replace hv := Lib.hid hv
       go_wp2_with fail
       go_returns
       exact ⟨by rw [hr.out]; rfl, hbw.out⟩
     | true =>
       rw [hv] at hr
       replace hv := Lib.hid hv
       have hcn := Lib.hid (hls.out w2 hbw.out (by have := h8.out; omega))
       go_wp2_with fail
       refine hcn.out.mono ?_
       rintro e w3 ⟨rfl, hb3⟩
       replace hbw := Lib.hid (bgo hbw.out hb3)
       dsimp only
       cases ha : all32 ns with
       | false =>
         rw [ha] at hr
         go_wp2_with fail
         go_returns
         exact ⟨by rw [hr.out]; rfl, hbw.out⟩
       | true =>
         rw [ha] at hr
         go_wp2_with fail
         go_returns
         exact ⟨by rw [hr.out]; rfl, hbw.out⟩
theorem names2_litR (w : World) : SeesR (w.alloc (.cells #[.string ⟨#[82, 79, 79, 84]⟩, .string ⟨#[83, 80, 65, 78]⟩] 9)) (w.heap.size + 1) (.slice (some ⟨w.heap.size, 0, none⟩) 2 2) 1 2 (nameS names2) := names2_lit w
set_option maxRecDepth 100000 in
set_option maxHeartbeats 2000000 in
theorem bsigned_any (B : Nat) (u : Value) (ns : List Bs) (lo hi : Int) (w : World) (hu : SeesL w B u ns) (hB : B ≤ w.heap.size) (hv : vS lo hi = true) (hn : ns.length ≤ 16) (hl : ∀ l ∈ ns, l.length = 32) :
 Calls Tryz.prog 72 #[u, .agg #[.int .i64 lo, .int .i64 hi]] w (Gives (partG ns lo hi) w) := by
 obtain ⟨A, c, rfl, -, -⟩ := hu.mk_
 have hal := balloc w (.cells #[.int .i64 lo, .int .i64 hi] 23)
 have x3 := Box.new w 23 [.int .i64 lo, .int .i64 hi]
 change Box (w.alloc (.cells #[.int .i64 lo, .int .i64 hi] 23)) _ _ _ at x3
 have hrt := Lib.hid (root_top ns B _ _ (hu.below (hal.mono hB)) (Nat.le_trans hB hal.size) (by omega) (fun l h => by rw [hl l h]; omega))
 have hsp := Lib.hid (fun W => span_any lo hi W)
 have hR : Hid ((rootG (ns.map leafH)).length = 32) := rootG_len _ (leafs_len ns)
 have hS := Lib.hid (pb16 lo hi)
 have hsl : spanL lo hi = spanB lo hi := by rw [spanL, if_pos hv]
 replace hal := Lib.hid hal
 replace hv := Lib.hid hv
 clear hu hl
 go_enter Tryz.func72, Tryz.ntmps72
 go_upto_region 1 with (fail)
 generalize w.alloc (.cells #[.int .i64 lo, .int .i64 hi] 23) = W at *
 generalize hgg : w.heap.size = g3 at x3 ⊢
 replace hgg := Lib.hid hgg
 go_wp2_with fail
 refine hrt.out.mono ?_
 rintro e w1 ⟨v1, rfl, o1, hb1⟩
 obtain ⟨A1, c1, rfl, -, -⟩ := o1.sees.mk_
 replace x3 := x3.below hb1
 have hbw := Lib.hid (bgo hal.out hb1)
 have y0 := x3.cell 0
 have y1 := x3.cell 1
 simp only [List.getElem?_cons_zero, List.getElem?_cons_succ] at y0 y1
 clear hrt hb1
 dsimp only
 go_wp2_with fail
 refine (hsp.out _).mono ?_
 rintro e w2 ⟨v2, rfl, o2, hb2⟩
 rw [hsl] at o2
 obtain ⟨A2, c2, rfl, -, -⟩ := o2.sees.mk_
 have s1 := seesB_of o1.sees (Nat.le_refl _) hb2
 have s2 := o2.sees
 replace hbw := Lib.hid (bgo hbw.out hb2)
 have hn2 := names2_litR w2
 have hal2 := balloc w2 (.cells #[.string ⟨#[82, 79, 79, 84]⟩, .string ⟨#[83, 80, 65, 78]⟩] 9)
 replace s1 := seesB_of s1 (Nat.le_refl _) hal2
 replace s2 := seesB_of s2 (Nat.le_refl _) hal2
 rw [← World.size_alloc w2 (.cells #[.string ⟨#[82, 79, 79, 84]⟩, .string ⟨#[83, 80, 65, 78]⟩] 9)] at hn2
 replace hbw := Lib.hid (bgo hbw.out hal2)
 have hpg : Hid (partG ns lo hi = encT [(nROOT, rootG (ns.map leafH)), (nSPAN, spanB lo hi)]) := rfl
 generalize rootG (ns.map leafH) = R at *
 generalize spanB lo hi = S at *
 have hms := message_any ((w2.alloc (.cells #[.string ⟨#[82, 79, 79, 84]⟩, .string ⟨#[83, 80, 65, 78]⟩] 9)).alloc (.cells #[.slice A1 R.length c1, .slice A2 S.length c2] 34)).heap.size (.slice (some ⟨w2.heap.size, 0, none⟩) 2 2) (.slice (some ⟨(w2.alloc (.cells #[.string ⟨#[82, 79, 79, 84]⟩, .string ⟨#[83, 80, 65, 78]⟩] 9)).heap.size, 0, none⟩) 2 2) names2 [R, S] ((w2.alloc (.cells #[.string ⟨#[82, 79, 79, 84]⟩, .string ⟨#[83, 80, 65, 78]⟩] 9)).alloc (.cells #[.slice A1 R.length c1, .slice A2 S.length c2] 34))
  ((hn2.below (balloc _ _)).more (balloc _ _).size)
  (seesL_lit _ 34 (vs := [.slice A1 R.length c1, .slice A2 S.length c2]) ⟨s1, s2, trivial⟩ (by simp [maxLen]))
  (Nat.le_refl _) rfl (by simp [names2]) (by
   have h1 := hR.out
   have h2 := hS.out
   simp only [names2, List.zip_cons_cons, List.zip_nil_right, dataT, List.map_cons, List.map_nil, List.flatten_cons, List.flatten_nil, List.length_append, List.length_nil]
   omega)
 rw [show names2.zip [R, S] = [(nROOT, R), (nSPAN, S)] from rfl] at hms
 replace hbw := Lib.hid (bgo hbw.out (balloc (w2.alloc (.cells #[.string ⟨#[82, 79, 79, 84]⟩, .string ⟨#[83, 80, 65, 78]⟩] 9)) (.cells #[.slice A1 R.length c1, .slice A2 S.length c2] 34)))
 rw [World.size_alloc] at hms
 replace hms := Lib.hid hms
 clear y0 y1 x3 hsp o1 o2 s1 s2 hn2 hal2 hb2
 dsimp only
 go_wp2_with fail
 refine hms.out.mono ?_
 rintro e w3 ⟨v3, rfl, o3, hb3⟩
 have hsz := hbw.out.size
 replace hbw := Lib.hid (bgo hbw.out hb3)
 obtain ⟨A3, c3, rfl, -, -⟩ := o3.sees.mk_
 dsimp only
 go_wp2_with fail
 go_returns
 exact ⟨_, rfl, by rw [hpg.out]; exact o3.mono hsz, hbw.out⟩
theorem ansTags_zip (i n : Nat) (P S part : Bs) : names5.zip [putB 4 i, putB 4 n, P, pad4 S, part] = ansTags i n P S part := rfl
end Go.Proofs.YtgehkgjllhkhoaaGreat
namespace Go.Proofs.YtgehkgjllhkhoaaGreat
open Go Go.RowKit
set_option linter.unusedVariables false
set_option linter.unusedSimpArgs false
attribute [local go_sem ↓] Go.wp_at_zero Go.wp_at_succ
theorem jtwo {Y X : World} {v1 v2 : Value} {a b : Bs} (s1 : SeesB Y Y.heap.size v1 a) (s2 : SeesB Y Y.heap.size v2 b) (G : Nat) (hG : G = Y.heap.size) (hX : Below (Y.alloc (.cells #[v1, v2] 34)).heap.size (Y.alloc (.cells #[v1, v2] 34)) X) (hl : (a ++ b).length ≤ 1099511627776) :
 Calls Tryz.prog 74 #[.slice (some ⟨G, 0, none⟩) 2 2] X (Gives (a ++ b) X) := by
 subst hG
 have h := seesL_lit Y 34 (vs := [v1, v2]) (ls := [a, b]) ⟨s1, s2, trivial⟩ (by simp [maxLen])
 have hf : [a, b].flatten = a ++ b := by simp
 have := join_any _ _ [a, b] X (h.below hX) hX.size (by rw [hf]; exact hl)
 rw [hf] at this
 exact this
set_option maxRecDepth 100000 in
set_option maxHeartbeats 8000000 in
theorem answer_any (B : Nat) (u u2 : Value) (sd : Bs) (h n : Int) (ns : List Bs) (lo hi : Int) (w : World) (hu : SeesB w B u sd) (hu2 : SeesL w B u2 ns) (hB : B ≤ w.heap.size) (hn : ns.length ≤ 1048576) :
 Calls Tryz.prog 25 #[.agg #[u, .int .i64 h, .int .i64 n], u2, .agg #[.int .i64 lo, .int .i64 hi]] w (AnswerP (answerR sd h n ns lo hi) w) := by
 obtain ⟨A, c, rfl, -, -⟩ := hu.mk_
 obtain ⟨A2, c2, rfl, -, -⟩ := hu2.mk_
 have b3 := bgo (bgo (balloc w (.cells #[.slice A sd.length c, .int .i64 h, .int .i64 n] 43)) (balloc _ (.cells #[.int .i64 lo, .int .i64 hi] 23))) (balloc _ (.cells #[.slice none 0 0, .int .i64 0, .int .i64 0] 43))
 have x3 := ((Box.new w 43 [.slice A sd.length c, .int .i64 h, .int .i64 n]).below (balloc _ (.cells #[.int .i64 lo, .int .i64 hi] 23))).below (balloc _ (.cells #[.slice none 0 0, .int .i64 0, .int .i64 0] 43))
 have x5 := (Box.new (w.alloc (.cells #[.slice A sd.length c, .int .i64 h, .int .i64 n] 43)) 23 [.int .i64 lo, .int .i64 hi]).below (balloc _ (.cells #[.slice none 0 0, .int .i64 0, .int .i64 0] 43))
 have x6 := Box.new ((w.alloc (.cells #[.slice A sd.length c, .int .i64 h, .int .i64 n] 43)).alloc (.cells #[.int .i64 lo, .int .i64 hi] 23)) 43 [.slice none 0 0, .int .i64 0, .int .i64 0]
 rw [World.size_alloc] at x5
 rw [World.size_alloc, World.size_alloc] at x6
 have su := Lib.hid (seesB_of hu hB b3)
 have sn := Lib.hid (seesL_of hu2 hB b3)
 have hg6 : w.heap.size ≤ w.heap.size + 1 + 1 := by omega
 replace hg6 := Lib.hid hg6
 have hn9 := Lib.hid hn
 have hbw := Lib.hid b3
 clear hu hu2 b3 hn
 change Box (((w.alloc (.cells #[.slice A sd.length c, .int .i64 h, .int .i64 n] 43)).alloc (.cells #[.int .i64 lo, .int .i64 hi] 23)).alloc (.cells #[.slice none 0 0, .int .i64 0, .int .i64 0] 43)) _ _ _ at x3 x5 x6
 go_enter Tryz.func25, Tryz.ntmps25
 go_upto_region 1 with (fail)
 generalize ((w.alloc (.cells #[.slice A sd.length c, .int .i64 h, .int .i64 n] 43)).alloc (.cells #[.int .i64 lo, .int .i64 hi] 23)).alloc (.cells #[.slice none 0 0, .int .i64 0, .int .i64 0] 43) = W0 at *
 generalize hG6 : w.heap.size + 1 + 1 = g6 at *
 generalize hG5 : w.heap.size + 1 = g5 at *
 generalize hG3 : w.heap.size = g3 at x3 ⊢
 replace hG6 := Lib.hid hG6
 replace hG5 := Lib.hid hG5
 replace hG3 := Lib.hid hG3
 obtain ⟨a0, a1, a2, -, -, -⟩ := box3_cells x3
 obtain ⟨a3, a4⟩ := boxT2 x5
 have hck := Lib.hid (bcheck_any W0.heap.size _ _ sd h n ns lo hi W0 su.out sn.out (Nat.le_refl _))
 go_wp2_with fail
 refine hck.out.mono ?_
 rintro e w1 ⟨rfl, hb1⟩
 replace x3 := x3.below hb1
 replace x5 := x5.below hb1
 replace x6 := x6.below hb1
 replace su := Lib.hid (seesB_of su.out (Nat.le_refl _) hb1)
 replace sn := Lib.hid (seesL_of sn.out (Nat.le_refl _) hb1)
 replace hbw := Lib.hid (bgo hbw.out hb1)
 clear a0 a1 a2 a3 a4 hck hb1
 dsimp only
 by_cases E1 : bchkC sd h n ns lo hi = 0
 rotate_left
 · have hr : Hid (answerR sd h n ns lo hi = (([], 0, 0), [], bchkC sd h n ns lo hi)) := by show _ = _; rw [answerR, if_neg E1]
   have hE : (bchkC sd h n ns lo hi == 0) = false := by simp [E1]
   generalize bchkC sd h n ns lo hi = E at *
   replace E1 := Lib.hid E1
   clear x3 x5
   obtain ⟨y0, y1, y2, f0, f1, f2⟩ := box3_cells x6
   go_wp2_with fail
   have k := box_set3 x6 (.slice none 0 0) (.int .i64 0) (.int .i64 0)
   have kb := Lib.hid (below_set3 hbw.out hg6.out (.slice none 0 0) (.int .i64 0) (.int .i64 0))
   clear y0 y1 y2 f0 f1 f2 x6
   generalize ((w1.setCell ⟨g6, 0, none⟩ (.slice none 0 0)).setCell ⟨g6, 1, none⟩ (.int .i64 0)).setCell ⟨g6, 2, none⟩ (.int .i64 0) = W9 at *
   obtain ⟨z0, z1, z2, -, -, -⟩ := box3_cells k
   refine bodyPost_ret (v := .tuple #[.agg #[.slice none 0 0, .int .i64 0, .int .i64 0], .slice none 0 0, .int .i64 E]) (by simp [results, Tryz.results25, go_sem, z0, z1, z2]) rfl ?_
   exact answer_bad hr.out kb.out
 obtain ⟨hvI, hn1, hn2, hvs, h32⟩ := bchk_zero E1
 have hr : Hid (answerR sd h n ns lo hi = if (signAll sd h n (tBatch ++ partG ns lo hi)).2.2.2.2 = 0 then
  (((signAll sd h n (tBatch ++ partG ns lo hi)).1, (signAll sd h n (tBatch ++ partG ns lo hi)).2.1, (signAll sd h n (tBatch ++ partG ns lo hi)).2.2.1), ansL ns (signAll sd h n (tBatch ++ partG ns lo hi)).2.2.2.1 (partG ns lo hi) ns.length, 0)
  else (([], 0, 0), [], (signAll sd h n (tBatch ++ partG ns lo hi)).2.2.2.2)) := by show _ = _; rw [answerR, if_pos E1]
 rw [E1]
 have hsg := Lib.hid (bsigned_any w1.heap.size _ ns lo hi w1 sn.out (Nat.le_refl _) hvs hn2 h32)
 have hTl2 := partG_len ns lo hi
 generalize partG ns lo hi = T at *
 obtain ⟨a3, a4⟩ := boxT2 x5
 replace E1 := Lib.hid E1
 replace hvI := Lib.hid hvI
 replace hvs := Lib.hid hvs
 replace h32 := Lib.hid h32
 go_wp2_with fail
 refine hsg.out.mono ?_
 rintro e W2 ⟨v7, rfl, o7, hb2⟩
 have sp2 := o7.sees
 obtain ⟨A7, c7, rfl, -, -⟩ := o7.sees.mk_
 replace sp2 := Lib.hid sp2
 replace x3 := x3.below hb2
 replace x6 := x6.below hb2
 replace su := Lib.hid (seesB_of su.out (Nat.le_refl _) hb2)
 replace sn := Lib.hid (seesL_of sn.out (Nat.le_refl _) hb2)
 replace hbw := Lib.hid (bgo hbw.out hb2)
 clear a3 a4 x5 hsg hb2 o7
 dsimp only
 have hm : (tBatch ++ T).length ≤ 65535 := by rw [List.length_append]; simp [tBatch]; omega
 have hTl : Hid ((tBatch ++ T).length ≤ 1099511627776) := by show _ ≤ _; omega
 have hsn := fun (W : World) (v : Value) (hW : Below W2.heap.size W2 W) (hv : SeesB W W.heap.size v (tBatch ++ T)) => sign_all W.heap.size (.slice A sd.length c) v sd (tBatch ++ T) h n W (seesB_of su.out (Nat.le_refl _) hW) hv (Nat.le_refl _) hm
 have hrg := fun h0 => sign_sig (m := tBatch ++ T) hvI.out h0
 generalize hsa : signAll sd h n (tBatch ++ T) = r at *
 replace hsa := Lib.hid hsa
 obtain ⟨rs, rh, rn, rg, rc⟩ := r
 dsimp only at hr hrg
 have hrl : Hid (rc = 0 → rg.length ≤ 757) := fun h0 => by
  obtain ⟨k', i', -, -, hk6, -, -, e9⟩ := hrg h0
  cases e9
  rw [sigG_len]
  omega
 unfold SignPost at hsn
 dsimp only at hsn
 replace hsn := Lib.hid hsn
 replace hm := Lib.hid hm
 have K : Hid (∀ W : World, Below W2.heap.size W2 W → W.cell? ⟨g3, 0, none⟩ = some (.slice A sd.length c) ∧ W.cell? ⟨g3, 1, none⟩ = some (.int .i64 h) ∧ W.cell? ⟨g3, 2, none⟩ = some (.int .i64 n)) := fun W hW => ⟨(x3.below hW).cell 0, (x3.below hW).cell 1, (x3.below hW).cell 2⟩
 obtain ⟨c0, c1, c2'⟩ := K.out W2 (Below.refl _ _)
 clear hrg x3
 go_wp2_with fail
 go_cut [11, 12, 13] (fun v11 v12 v13 W => SgnR W2 rs rh rn rg rc v11 v12 v13 W)
 case first =>
  have sT := sp2.out
  have q1 : SeesB (W2.alloc (.cells #[.int .u8 115, .int .u8 101, .int .u8 99, .int .u8 116, .int .u8 105, .int .u8 109, .int .u8 101, .int .u8 32, .int .u8 98, .int .u8 97, .int .u8 116, .int .u8 99, .int .u8 104] 5 (13, 14))) (W2.alloc (.cells #[.int .u8 115, .int .u8 101, .int .u8 99, .int .u8 116, .int .u8 105, .int .u8 109, .int .u8 101, .int .u8 32, .int .u8 98, .int .u8 97, .int .u8 116, .int .u8 99, .int .u8 104] 5 (13, 14))).heap.size (.slice (some ⟨W2.heap.size, 0, none⟩) 13 13) tBatch := (lit13_sees W2).more (by rw [World.size_alloc]; exact Nat.le_refl _)
  have p1 : SeesB (W2.alloc (.cells #[.int .u8 115, .int .u8 101, .int .u8 99, .int .u8 116, .int .u8 105, .int .u8 109, .int .u8 101, .int .u8 32, .int .u8 98, .int .u8 97, .int .u8 116, .int .u8 99, .int .u8 104] 5 (13, 14))) (W2.alloc (.cells #[.int .u8 115, .int .u8 101, .int .u8 99, .int .u8 116, .int .u8 105, .int .u8 109, .int .u8 101, .int .u8 32, .int .u8 98, .int .u8 97, .int .u8 116, .int .u8 99, .int .u8 104] 5 (13, 14))).heap.size (.slice A7 T.length c7) T := seesB_of sT (Nat.le_refl _) (balloc W2 _)
  have q2 : SeesB ((W2.alloc (.cells #[.slice none 0 0, .int .i64 0, .int .i64 0] 43)).alloc (.cells #[.int .u8 115, .int .u8 101, .int .u8 99, .int .u8 116, .int .u8 105, .int .u8 109, .int .u8 101, .int .u8 32, .int .u8 98, .int .u8 97, .int .u8 116, .int .u8 99, .int .u8 104] 5 (13, 14))) ((W2.alloc (.cells #[.slice none 0 0, .int .i64 0, .int .i64 0] 43)).alloc (.cells #[.int .u8 115, .int .u8 101, .int .u8 99, .int .u8 116, .int .u8 105, .int .u8 109, .int .u8 101, .int .u8 32, .int .u8 98, .int .u8 97, .int .u8 116, .int .u8 99, .int .u8 104] 5 (13, 14))).heap.size (.slice (some ⟨W2.heap.size + 1, 0, none⟩) 13 13) tBatch := by have h := lit13_sees (W2.alloc (.cells #[.slice none 0 0, .int .i64 0, .int .i64 0] 43)); rw [World.size_alloc] at h; exact h.more (by rw [World.size_alloc, World.size_alloc]; exact Nat.le_refl _)
  have p2 : SeesB ((W2.alloc (.cells #[.slice none 0 0, .int .i64 0, .int .i64 0] 43)).alloc (.cells #[.int .u8 115, .int .u8 101, .int .u8 99, .int .u8 116, .int .u8 105, .int .u8 109, .int .u8 101, .int .u8 32, .int .u8 98, .int .u8 97, .int .u8 116, .int .u8 99, .int .u8 104] 5 (13, 14))) ((W2.alloc (.cells #[.slice none 0 0, .int .i64 0, .int .i64 0] 43)).alloc (.cells #[.int .u8 115, .int .u8 101, .int .u8 99, .int .u8 116, .int .u8 105, .int .u8 109, .int .u8 101, .int .u8 32, .int .u8 98, .int .u8 97, .int .u8 116, .int .u8 99, .int .u8 104] 5 (13, 14))).heap.size (.slice A7 T.length c7) T := seesB_of sT (Nat.le_refl _) (bgo (balloc W2 _) (balloc _ _))
  have q3 : SeesB ((W2.alloc (.cells #[.int .u8 115, .int .u8 101, .int .u8 99, .int .u8 116, .int .u8 105, .int .u8 109, .int .u8 101, .int .u8 32, .int .u8 98, .int .u8 97, .int .u8 116, .int .u8 99, .int .u8 104] 5 (13, 14))).alloc (.cells #[.slice none 0 0, .int .i64 0, .int .i64 0] 43)) ((W2.alloc (.cells #[.int .u8 115, .int .u8 101, .int .u8 99, .int .u8 116, .int .u8 105, .int .u8 109, .int .u8 101, .int .u8 32, .int .u8 98, .int .u8 97, .int .u8 116, .int .u8 99, .int .u8 104] 5 (13, 14))).alloc (.cells #[.slice none 0 0, .int .i64 0, .int .i64 0] 43)).heap.size (.slice (some ⟨W2.heap.size, 0, none⟩) 13 13) tBatch := seesB_of q1 (Nat.le_refl _) (balloc _ _)
  have p3 : SeesB ((W2.alloc (.cells #[.int .u8 115, .int .u8 101, .int .u8 99, .int .u8 116, .int .u8 105, .int .u8 109, .int .u8 101, .int .u8 32, .int .u8 98, .int .u8 97, .int .u8 116, .int .u8 99, .int .u8 104] 5 (13, 14))).alloc (.cells #[.slice none 0 0, .int .i64 0, .int .i64 0] 43)) ((W2.alloc (.cells #[.int .u8 115, .int .u8 101, .int .u8 99, .int .u8 116, .int .u8 105, .int .u8 109, .int .u8 101, .int .u8 32, .int .u8 98, .int .u8 97, .int .u8 116, .int .u8 99, .int .u8 104] 5 (13, 14))).alloc (.cells #[.slice none 0 0, .int .i64 0, .int .i64 0] 43)).heap.size (.slice A7 T.length c7) T := seesB_of p1 (Nat.le_refl _) (balloc _ _)
  have hja := Lib.hid (jtwo (X := ((W2.alloc (.cells #[.int .u8 115, .int .u8 101, .int .u8 99, .int .u8 116, .int .u8 105, .int .u8 109, .int .u8 101, .int .u8 32, .int .u8 98, .int .u8 97, .int .u8 116, .int .u8 99, .int .u8 104] 5 (13, 14))).alloc (.cells #[.slice (some ⟨W2.heap.size, 0, none⟩) 13 13, .slice A7 T.length c7] 34))) q1 p1 (W2.heap.size + 1) (by simp only [World.size_alloc]) (Below.refl _ _) hTl.out)
  have hda := Lib.hid (jtwo (X := ((W2.alloc (.cells #[.int .u8 115, .int .u8 101, .int .u8 99, .int .u8 116, .int .u8 105, .int .u8 109, .int .u8 101, .int .u8 32, .int .u8 98, .int .u8 97, .int .u8 116, .int .u8 99, .int .u8 104] 5 (13, 14))).alloc (.cells #[.slice (some ⟨W2.heap.size, 0, none⟩) 13 13, .slice A7 T.length c7] 34)).drew) q1 p1 (W2.heap.size + 1) (by simp only [World.size_alloc]) (bgo (Below.refl _ _) (bdrew _)) hTl.out)
  have hjb := Lib.hid (jtwo (X := (((W2.alloc (.cells #[.int .u8 115, .int .u8 101, .int .u8 99, .int .u8 116, .int .u8 105, .int .u8 109, .int .u8 101, .int .u8 32, .int .u8 98, .int .u8 97, .int .u8 116, .int .u8 99, .int .u8 104] 5 (13, 14))).alloc (.cells #[.slice (some ⟨W2.heap.size, 0, none⟩) 13 13, .slice A7 T.length c7] 34)).alloc (.cells #[.slice none 0 0, .int .i64 0, .int .i64 0] 43))) q1 p1 (W2.heap.size + 1) (by simp only [World.size_alloc]) (balloc _ _) hTl.out)
  have hdb := Lib.hid (jtwo (X := (((W2.alloc (.cells #[.int .u8 115, .int .u8 101, .int .u8 99, .int .u8 116, .int .u8 105, .int .u8 109, .int .u8 101, .int .u8 32, .int .u8 98, .int .u8 97, .int .u8 116, .int .u8 99, .int .u8 104] 5 (13, 14))).alloc (.cells #[.slice (some ⟨W2.heap.size, 0, none⟩) 13 13, .slice A7 T.length c7] 34)).alloc (.cells #[.slice none 0 0, .int .i64 0, .int .i64 0] 43)).drew) q1 p1 (W2.heap.size + 1) (by simp only [World.size_alloc]) (bgo (balloc _ _) (bdrew _)) hTl.out)
  have hjc := Lib.hid (jtwo (X := (((W2.alloc (.cells #[.slice none 0 0, .int .i64 0, .int .i64 0] 43)).alloc (.cells #[.int .u8 115, .int .u8 101, .int .u8 99, .int .u8 116, .int .u8 105, .int .u8 109, .int .u8 101, .int .u8 32, .int .u8 98, .int .u8 97, .int .u8 116, .int .u8 99, .int .u8 104] 5 (13, 14))).alloc (.cells #[.slice (some ⟨W2.heap.size + 1, 0, none⟩) 13 13, .slice A7 T.length c7] 34))) q2 p2 (W2.heap.size + 1 + 1) (by simp only [World.size_alloc]) (Below.refl _ _) hTl.out)
  have hdc := Lib.hid (jtwo (X := (((W2.alloc (.cells #[.slice none 0 0, .int .i64 0, .int .i64 0] 43)).alloc (.cells #[.int .u8 115, .int .u8 101, .int .u8 99, .int .u8 116, .int .u8 105, .int .u8 109, .int .u8 101, .int .u8 32, .int .u8 98, .int .u8 97, .int .u8 116, .int .u8 99, .int .u8 104] 5 (13, 14))).alloc (.cells #[.slice (some ⟨W2.heap.size + 1, 0, none⟩) 13 13, .slice A7 T.length c7] 34)).drew) q2 p2 (W2.heap.size + 1 + 1) (by simp only [World.size_alloc]) (bgo (Below.refl _ _) (bdrew _)) hTl.out)
  have hjd := Lib.hid (jtwo (X := (((W2.alloc (.cells #[.int .u8 115, .int .u8 101, .int .u8 99, .int .u8 116, .int .u8 105, .int .u8 109, .int .u8 101, .int .u8 32, .int .u8 98, .int .u8 97, .int .u8 116, .int .u8 99, .int .u8 104] 5 (13, 14))).alloc (.cells #[.slice none 0 0, .int .i64 0, .int .i64 0] 43)).alloc (.cells #[.slice (some ⟨W2.heap.size, 0, none⟩) 13 13, .slice A7 T.length c7] 34))) q3 p3 (W2.heap.size + 1 + 1) (by simp only [World.size_alloc]) (Below.refl _ _) hTl.out)
  have hdd := Lib.hid (jtwo (X := (((W2.alloc (.cells #[.int .u8 115, .int .u8 101, .int .u8 99, .int .u8 116, .int .u8 105, .int .u8 109, .int .u8 101, .int .u8 32, .int .u8 98, .int .u8 97, .int .u8 116, .int .u8 99, .int .u8 104] 5 (13, 14))).alloc (.cells #[.slice none 0 0, .int .i64 0, .int .i64 0] 43)).alloc (.cells #[.slice (some ⟨W2.heap.size, 0, none⟩) 13 13, .slice A7 T.length c7] 34)).drew) q3 p3 (W2.heap.size + 1 + 1) (by simp only [World.size_alloc]) (bgo (Below.refl _ _) (bdrew _)) hTl.out)
  clear sT q1 p1 q2 p2 q3 p3 x6
  generalize tBatch ++ T = M at *
  have hcAj : (convert 34 34 (.slice (some ⟨W2.heap.size, 0, none⟩) 13 13)).run Tryz.prog (W2.alloc (.cells #[.int .u8 115, .int .u8 101, .int .u8 99, .int .u8 116, .int .u8 105, .int .u8 109, .int .u8 101, .int .u8 32, .int .u8 98, .int .u8 97, .int .u8 116, .int .u8 99, .int .u8 104] 5)) = .ok (.slice (some ⟨W2.heap.size, 0, none⟩) 13 13) (W2.alloc (.cells #[.int .u8 115, .int .u8 101, .int .u8 99, .int .u8 116, .int .u8 105, .int .u8 109, .int .u8 101, .int .u8 32, .int .u8 98, .int .u8 97, .int .u8 116, .int .u8 99, .int .u8 104] 5 (13, 14))) := lit13_runJ W2 W2.heap.size rfl
  have hcBj : (convert 34 34 (.slice (some ⟨W2.heap.size + 1, 0, none⟩) 13 13)).run Tryz.prog ((W2.alloc (.cells #[.slice none 0 0, .int .i64 0, .int .i64 0] 43)).alloc (.cells #[.int .u8 115, .int .u8 101, .int .u8 99, .int .u8 116, .int .u8 105, .int .u8 109, .int .u8 101, .int .u8 32, .int .u8 98, .int .u8 97, .int .u8 116, .int .u8 99, .int .u8 104] 5)) = .ok (.slice (some ⟨W2.heap.size + 1, 0, none⟩) 13 13) ((W2.alloc (.cells #[.slice none 0 0, .int .i64 0, .int .i64 0] 43)).alloc (.cells #[.int .u8 115, .int .u8 101, .int .u8 99, .int .u8 116, .int .u8 105, .int .u8 109, .int .u8 101, .int .u8 32, .int .u8 98, .int .u8 97, .int .u8 116, .int .u8 99, .int .u8 104] 5 (13, 14))) := lit13_runJ (W2.alloc (.cells #[.slice none 0 0, .int .i64 0, .int .i64 0] 43)) (W2.heap.size + 1) (by rw [World.size_alloc])
  have hcCj : (convert 34 34 (.slice (some ⟨W2.heap.size, 0, none⟩) 13 13)).run Tryz.prog ((W2.alloc (.cells #[.int .u8 115, .int .u8 101, .int .u8 99, .int .u8 116, .int .u8 105, .int .u8 109, .int .u8 101, .int .u8 32, .int .u8 98, .int .u8 97, .int .u8 116, .int .u8 99, .int .u8 104] 5)).alloc (.cells #[.slice none 0 0, .int .i64 0, .int .i64 0] 43)) = .ok (.slice (some ⟨W2.heap.size, 0, none⟩) 13 13) ((W2.alloc (.cells #[.int .u8 115, .int .u8 101, .int .u8 99, .int .u8 116, .int .u8 105, .int .u8 109, .int .u8 101, .int .u8 32, .int .u8 98, .int .u8 97, .int .u8 116, .int .u8 99, .int .u8 104] 5 (13, 14))).alloc (.cells #[.slice none 0 0, .int .i64 0, .int .i64 0] 43)) := lit13_mid W2 _ _ 13 13 rfl
  have hcAd : (convert 34 34 (.slice (some ⟨W2.heap.size, 0, none⟩) 13 13)).run Tryz.prog (W2.alloc (.cells #[.int .u8 115, .int .u8 101, .int .u8 99, .int .u8 116, .int .u8 105, .int .u8 109, .int .u8 101, .int .u8 32, .int .u8 98, .int .u8 97, .int .u8 116, .int .u8 99, .int .u8 104] 5)).drew = .ok (.slice (some ⟨W2.heap.size, 0, none⟩) 13 13) (W2.alloc (.cells #[.int .u8 115, .int .u8 101, .int .u8 99, .int .u8 116, .int .u8 105, .int .u8 109, .int .u8 101, .int .u8 32, .int .u8 98, .int .u8 97, .int .u8 116, .int .u8 99, .int .u8 104] 5 (13, 14))).drew := lit13_run W2 W2.heap.size rfl
  have hcBd : (convert 34 34 (.slice (some ⟨W2.heap.size + 1, 0, none⟩) 13 13)).run Tryz.prog ((W2.alloc (.cells #[.slice none 0 0, .int .i64 0, .int .i64 0] 43)).alloc (.cells #[.int .u8 115, .int .u8 101, .int .u8 99, .int .u8 116, .int .u8 105, .int .u8 109, .int .u8 101, .int .u8 32, .int .u8 98, .int .u8 97, .int .u8 116, .int .u8 99, .int .u8 104] 5)).drew = .ok (.slice (some ⟨W2.heap.size + 1, 0, none⟩) 13 13) ((W2.alloc (.cells #[.slice none 0 0, .int .i64 0, .int .i64 0] 43)).alloc (.cells #[.int .u8 115, .int .u8 101, .int .u8 99, .int .u8 116, .int .u8 105, .int .u8 109, .int .u8 101, .int .u8 32, .int .u8 98, .int .u8 97, .int .u8 116, .int .u8 99, .int .u8 104] 5 (13, 14))).drew := lit13_run (W2.alloc (.cells #[.slice none 0 0, .int .i64 0, .int .i64 0] 43)) (W2.heap.size + 1) (by rw [World.size_alloc])
  have hcCd : (convert 34 34 (.slice (some ⟨W2.heap.size, 0, none⟩) 13 13)).run Tryz.prog ((W2.alloc (.cells #[.int .u8 115, .int .u8 101, .int .u8 99, .int .u8 116, .int .u8 105, .int .u8 109, .int .u8 101, .int .u8 32, .int .u8 98, .int .u8 97, .int .u8 116, .int .u8 99, .int .u8 104] 5)).alloc (.cells #[.slice none 0 0, .int .i64 0, .int .i64 0] 43)).drew = .ok (.slice (some ⟨W2.heap.size, 0, none⟩) 13 13) ((W2.alloc (.cells #[.int .u8 115, .int .u8 101, .int .u8 99, .int .u8 116, .int .u8 105, .int .u8 109, .int .u8 101, .int .u8 32, .int .u8 98, .int .u8 97, .int .u8 116, .int .u8 99, .int .u8 104] 5 (13, 14))).alloc (.cells #[.slice none 0 0, .int .i64 0, .int .i64 0] 43)).drew := lit13_mid W2.drew _ _ 13 13 rfl
  have bxb : Box (((W2.alloc (.cells #[.int .u8 115, .int .u8 101, .int .u8 99, .int .u8 116, .int .u8 105, .int .u8 109, .int .u8 101, .int .u8 32, .int .u8 98, .int .u8 97, .int .u8 116, .int .u8 99, .int .u8 104] 5 (13, 14))).alloc (.cells #[.slice (some ⟨W2.heap.size, 0, none⟩) 13 13, .slice A7 T.length c7] 34)).alloc (.cells #[.slice none 0 0, .int .i64 0, .int .i64 0] 43)) (W2.heap.size + 1 + 1) 43 [.slice none 0 0, .int .i64 0, .int .i64 0] := by
   have h := Box.new ((W2.alloc (.cells #[.int .u8 115, .int .u8 101, .int .u8 99, .int .u8 116, .int .u8 105, .int .u8 109, .int .u8 101, .int .u8 32, .int .u8 98, .int .u8 97, .int .u8 116, .int .u8 99, .int .u8 104] 5 (13, 14))).alloc (.cells #[.slice (some ⟨W2.heap.size, 0, none⟩) 13 13, .slice A7 T.length c7] 34)) 43 [.slice none 0 0, .int .i64 0, .int .i64 0]
   rw [World.size_alloc, World.size_alloc] at h
   exact h
  have bxc : Box (((W2.alloc (.cells #[.slice none 0 0, .int .i64 0, .int .i64 0] 43)).alloc (.cells #[.int .u8 115, .int .u8 101, .int .u8 99, .int .u8 116, .int .u8 105, .int .u8 109, .int .u8 101, .int .u8 32, .int .u8 98, .int .u8 97, .int .u8 116, .int .u8 99, .int .u8 104] 5 (13, 14))).alloc (.cells #[.slice (some ⟨W2.heap.size + 1, 0, none⟩) 13 13, .slice A7 T.length c7] 34)) W2.heap.size 43 [.slice none 0 0, .int .i64 0, .int .i64 0] := ((Box.new W2 43 [.slice none 0 0, .int .i64 0, .int .i64 0]).below (balloc _ (.cells #[.int .u8 115, .int .u8 101, .int .u8 99, .int .u8 116, .int .u8 105, .int .u8 109, .int .u8 101, .int .u8 32, .int .u8 98, .int .u8 97, .int .u8 116, .int .u8 99, .int .u8 104] 5 (13, 14)))).below (balloc _ (.cells #[.slice (some ⟨W2.heap.size + 1, 0, none⟩) 13 13, .slice A7 T.length c7] 34))
  have bxd : Box (((W2.alloc (.cells #[.int .u8 115, .int .u8 101, .int .u8 99, .int .u8 116, .int .u8 105, .int .u8 109, .int .u8 101, .int .u8 32, .int .u8 98, .int .u8 97, .int .u8 116, .int .u8 99, .int .u8 104] 5 (13, 14))).alloc (.cells #[.slice none 0 0, .int .i64 0, .int .i64 0] 43)).alloc (.cells #[.slice (some ⟨W2.heap.size, 0, none⟩) 13 13, .slice A7 T.length c7] 34)) (W2.heap.size + 1) 43 [.slice none 0 0, .int .i64 0, .int .i64 0] := by
   have h := (Box.new (W2.alloc (.cells #[.int .u8 115, .int .u8 101, .int .u8 99, .int .u8 116, .int .u8 105, .int .u8 109, .int .u8 101, .int .u8 32, .int .u8 98, .int .u8 97, .int .u8 116, .int .u8 99, .int .u8 104] 5 (13, 14))) 43 [.slice none 0 0, .int .i64 0, .int .i64 0]).below (balloc _ (.cells #[.slice (some ⟨W2.heap.size, 0, none⟩) 13 13, .slice A7 T.length c7] 34))
   rw [World.size_alloc] at h
   exact h
  replace bxb := Lib.hid bxb
  replace bxc := Lib.hid bxc
  replace bxd := Lib.hid bxd
  obtain ⟨m0a, m0b, m0c⟩ := K.out (W2.alloc (.cells #[.int .u8 115, .int .u8 101, .int .u8 99, .int .u8 116, .int .u8 105, .int .u8 109, .int .u8 101, .int .u8 32, .int .u8 98, .int .u8 97, .int .u8 116, .int .u8 99, .int .u8 104] 5)) (balloc W2 _)
  obtain ⟨m1a, m1b, m1c⟩ := K.out (W2.alloc (.cells #[.int .u8 115, .int .u8 101, .int .u8 99, .int .u8 116, .int .u8 105, .int .u8 109, .int .u8 101, .int .u8 32, .int .u8 98, .int .u8 97, .int .u8 116, .int .u8 99, .int .u8 104] 5 (13, 14))) (balloc W2 _)
  obtain ⟨m2a, m2b, m2c⟩ := K.out ((W2.alloc (.cells #[.int .u8 115, .int .u8 101, .int .u8 99, .int .u8 116, .int .u8 105, .int .u8 109, .int .u8 101, .int .u8 32, .int .u8 98, .int .u8 97, .int .u8 116, .int .u8 99, .int .u8 104] 5 (13, 14))).alloc (.cells #[.slice (some ⟨W2.heap.size, 0, none⟩) 13 13, .slice A7 T.length c7] 34)) (bgo (balloc W2 _) (balloc _ _))
  obtain ⟨m3a, m3b, m3c⟩ := K.out (((W2.alloc (.cells #[.int .u8 115, .int .u8 101, .int .u8 99, .int .u8 116, .int .u8 105, .int .u8 109, .int .u8 101, .int .u8 32, .int .u8 98, .int .u8 97, .int .u8 116, .int .u8 99, .int .u8 104] 5 (13, 14))).alloc (.cells #[.slice (some ⟨W2.heap.size, 0, none⟩) 13 13, .slice A7 T.length c7] 34)).alloc (.cells #[.slice none 0 0, .int .i64 0, .int .i64 0] 43)) (bgo (bgo (balloc W2 _) (balloc _ _)) (balloc _ _))
  obtain ⟨m4a, m4b, m4c⟩ := K.out (W2.alloc (.cells #[.slice none 0 0, .int .i64 0, .int .i64 0] 43)) (balloc W2 _)
  obtain ⟨m5a, m5b, m5c⟩ := K.out ((W2.alloc (.cells #[.slice none 0 0, .int .i64 0, .int .i64 0] 43)).alloc (.cells #[.int .u8 115, .int .u8 101, .int .u8 99, .int .u8 116, .int .u8 105, .int .u8 109, .int .u8 101, .int .u8 32, .int .u8 98, .int .u8 97, .int .u8 116, .int .u8 99, .int .u8 104] 5)) (bgo (balloc W2 _) (balloc _ _))
  obtain ⟨m6a, m6b, m6c⟩ := K.out ((W2.alloc (.cells #[.slice none 0 0, .int .i64 0, .int .i64 0] 43)).alloc (.cells #[.int .u8 115, .int .u8 101, .int .u8 99, .int .u8 116, .int .u8 105, .int .u8 109, .int .u8 101, .int .u8 32, .int .u8 98, .int .u8 97, .int .u8 116, .int .u8 99, .int .u8 104] 5 (13, 14))) (bgo (balloc W2 _) (balloc _ _))
  obtain ⟨m7a, m7b, m7c⟩ := K.out (((W2.alloc (.cells #[.slice none 0 0, .int .i64 0, .int .i64 0] 43)).alloc (.cells #[.int .u8 115, .int .u8 101, .int .u8 99, .int .u8 116, .int .u8 105, .int .u8 109, .int .u8 101, .int .u8 32, .int .u8 98, .int .u8 97, .int .u8 116, .int .u8 99, .int .u8 104] 5 (13, 14))).alloc (.cells #[.slice (some ⟨W2.heap.size + 1, 0, none⟩) 13 13, .slice A7 T.length c7] 34)) (bgo (bgo (balloc W2 _) (balloc _ _)) (balloc _ _))
  obtain ⟨m8a, m8b, m8c⟩ := K.out ((W2.alloc (.cells #[.int .u8 115, .int .u8 101, .int .u8 99, .int .u8 116, .int .u8 105, .int .u8 109, .int .u8 101, .int .u8 32, .int .u8 98, .int .u8 97, .int .u8 116, .int .u8 99, .int .u8 104] 5)).alloc (.cells #[.slice none 0 0, .int .i64 0, .int .i64 0] 43)) (bgo (balloc W2 _) (balloc _ _))
  obtain ⟨m9a, m9b, m9c⟩ := K.out ((W2.alloc (.cells #[.int .u8 115, .int .u8 101, .int .u8 99, .int .u8 116, .int .u8 105, .int .u8 109, .int .u8 101, .int .u8 32, .int .u8 98, .int .u8 97, .int .u8 116, .int .u8 99, .int .u8 104] 5 (13, 14))).alloc (.cells #[.slice none 0 0, .int .i64 0, .int .i64 0] 43)) (bgo (balloc W2 _) (balloc _ _))
  obtain ⟨m10a, m10b, m10c⟩ := K.out (((W2.alloc (.cells #[.int .u8 115, .int .u8 101, .int .u8 99, .int .u8 116, .int .u8 105, .int .u8 109, .int .u8 101, .int .u8 32, .int .u8 98, .int .u8 97, .int .u8 116, .int .u8 99, .int .u8 104] 5 (13, 14))).alloc (.cells #[.slice none 0 0, .int .i64 0, .int .i64 0] 43)).alloc (.cells #[.slice (some ⟨W2.heap.size, 0, none⟩) 13 13, .slice A7 T.length c7] 34)) (bgo (bgo (balloc W2 _) (balloc _ _)) (balloc _ _))
  go_region_with
   (first
    | (go_at_call 73; (with_reducible refine (hsn.out (w9.alloc (.cells #[.slice none 0 0, .int .i64 0, .int .i64 0] 43)) _ (bgo hb9 (balloc w9 _)) (seesB_of s9 (Nat.le_refl _) (balloc w9 _))).mono ?_); rintro e w10 ⟨v1, v2, rfl, t1, t2, hb10⟩
       obtain ⟨A1, k1, rfl, -, -⟩ := t1.mk_
       obtain ⟨A8, k8, rfl, -, -⟩ := t2.mk_
       have bz := (Box.new w9 43 [.slice none 0 0, .int .i64 0, .int .i64 0]).below hb10
       have hz9 := hb9.size
       replace hb10 := bgo (bgo hb9 (balloc w9 _)) hb10
       obtain ⟨e0, e1, e2, j0, j1, j2⟩ := box3_cells bz)
    | (go_at_call 73; have _q := bz9; (with_reducible refine (hsn.out w9 _ hb9 s9).mono ?_); rintro e w10 ⟨v1, v2, rfl, t1, t2, hb10⟩
       obtain ⟨A1, k1, rfl, -, -⟩ := t1.mk_
       obtain ⟨A8, k8, rfl, -, -⟩ := t2.mk_
       have bz := bz9.below hb10
       replace hb10 := bgo hb9 hb10
       have hz9 : W2.heap.size ≤ W2.heap.size := Nat.le_refl W2.heap.size
       obtain ⟨e0, e1, e2, j0, j1, j2⟩ := box3_cells bz)
    | (go_at_call 73; (with_reducible refine (hsn.out w9 _ hb9 s9).mono ?_); rintro e w10 ⟨v1, v2, rfl, t1, t2, hb10⟩
       obtain ⟨A1, k1, rfl, -, -⟩ := t1.mk_
       obtain ⟨A8, k8, rfl, -, -⟩ := t2.mk_
       replace hb10 := bgo hb9 hb10)
    | (go_at_call 74; (with_reducible refine hda.out.mono ?_); rintro e w9 ⟨v9, rfl, o9, hb9⟩
       have s9 := o9.sees
       obtain ⟨A9, c9, rfl, -, -⟩ := o9.sees.mk_
       replace hb9 := bgo (bgo (bgo (balloc W2 _) (balloc _ _)) (bdrew _)) hb9
       obtain ⟨d0, d1, d2⟩ := K.out w9 hb9
       obtain ⟨d3, d4, d5⟩ := K.out (w9.alloc (.cells #[.slice none 0 0, .int .i64 0, .int .i64 0] 43)) (bgo hb9 (balloc w9 _)))
    | (go_at_call 74; (with_reducible refine hja.out.mono ?_); rintro e w9 ⟨v9, rfl, o9, hb9⟩
       have s9 := o9.sees
       obtain ⟨A9, c9, rfl, -, -⟩ := o9.sees.mk_
       replace hb9 := bgo (bgo (balloc W2 _) (balloc _ _)) hb9
       obtain ⟨d0, d1, d2⟩ := K.out w9 hb9
       obtain ⟨d3, d4, d5⟩ := K.out (w9.alloc (.cells #[.slice none 0 0, .int .i64 0, .int .i64 0] 43)) (bgo hb9 (balloc w9 _)))
    | (go_at_call 74; (with_reducible refine hdb.out.mono ?_); rintro e w9 ⟨v9, rfl, o9, hb9⟩
       have s9 := o9.sees
       obtain ⟨A9, c9, rfl, -, -⟩ := o9.sees.mk_
       have bz9 := bxb.out.below (bdrew _) |>.below hb9
       replace hb9 := bgo (bgo (bgo (bgo (balloc W2 _) (balloc _ _)) (balloc _ _)) (bdrew _)) hb9
       obtain ⟨d0, d1, d2⟩ := K.out w9 hb9
       obtain ⟨d3, d4, d5⟩ := K.out (w9.alloc (.cells #[.slice none 0 0, .int .i64 0, .int .i64 0] 43)) (bgo hb9 (balloc w9 _)))
    | (go_at_call 74; (with_reducible refine hjb.out.mono ?_); rintro e w9 ⟨v9, rfl, o9, hb9⟩
       have s9 := o9.sees
       obtain ⟨A9, c9, rfl, -, -⟩ := o9.sees.mk_
       have bz9 := bxb.out |>.below hb9
       replace hb9 := bgo (bgo (bgo (balloc W2 _) (balloc _ _)) (balloc _ _)) hb9
       obtain ⟨d0, d1, d2⟩ := K.out w9 hb9
       obtain ⟨d3, d4, d5⟩ := K.out (w9.alloc (.cells #[.slice none 0 0, .int .i64 0, .int .i64 0] 43)) (bgo hb9 (balloc w9 _)))
    | (go_at_call 74; (with_reducible refine hdc.out.mono ?_); rintro e w9 ⟨v9, rfl, o9, hb9⟩
       have s9 := o9.sees
       obtain ⟨A9, c9, rfl, -, -⟩ := o9.sees.mk_
       have bz9 := bxc.out.below (bdrew _) |>.below hb9
       replace hb9 := bgo (bgo (bgo (bgo (balloc W2 _) (balloc _ _)) (balloc _ _)) (bdrew _)) hb9
       obtain ⟨d0, d1, d2⟩ := K.out w9 hb9
       obtain ⟨d3, d4, d5⟩ := K.out (w9.alloc (.cells #[.slice none 0 0, .int .i64 0, .int .i64 0] 43)) (bgo hb9 (balloc w9 _)))
    | (go_at_call 74; (with_reducible refine hjc.out.mono ?_); rintro e w9 ⟨v9, rfl, o9, hb9⟩
       have s9 := o9.sees
       obtain ⟨A9, c9, rfl, -, -⟩ := o9.sees.mk_
       have bz9 := bxc.out |>.below hb9
       replace hb9 := bgo (bgo (bgo (balloc W2 _) (balloc _ _)) (balloc _ _)) hb9
       obtain ⟨d0, d1, d2⟩ := K.out w9 hb9
       obtain ⟨d3, d4, d5⟩ := K.out (w9.alloc (.cells #[.slice none 0 0, .int .i64 0, .int .i64 0] 43)) (bgo hb9 (balloc w9 _)))
    | (go_at_call 74; (with_reducible refine hdd.out.mono ?_); rintro e w9 ⟨v9, rfl, o9, hb9⟩
       have s9 := o9.sees
       obtain ⟨A9, c9, rfl, -, -⟩ := o9.sees.mk_
       have bz9 := bxd.out.below (bdrew _) |>.below hb9
       replace hb9 := bgo (bgo (bgo (bgo (balloc W2 _) (balloc _ _)) (balloc _ _)) (bdrew _)) hb9
       obtain ⟨d0, d1, d2⟩ := K.out w9 hb9
       obtain ⟨d3, d4, d5⟩ := K.out (w9.alloc (.cells #[.slice none 0 0, .int .i64 0, .int .i64 0] 43)) (bgo hb9 (balloc w9 _)))
    | (go_at_call 74; (with_reducible refine hjd.out.mono ?_); rintro e w9 ⟨v9, rfl, o9, hb9⟩
       have s9 := o9.sees
       obtain ⟨A9, c9, rfl, -, -⟩ := o9.sees.mk_
       have bz9 := bxd.out |>.below hb9
       replace hb9 := bgo (bgo (bgo (balloc W2 _) (balloc _ _)) (balloc _ _)) hb9
       obtain ⟨d0, d1, d2⟩ := K.out w9 hb9
       obtain ⟨d3, d4, d5⟩ := K.out (w9.alloc (.cells #[.slice none 0 0, .int .i64 0, .int .i64 0] 43)) (bgo hb9 (balloc w9 _))))
  all_goals
   go_wp2_with fail
   go_meet
   first
    | (with_reducible exact sgn_new W2 w10 _ _ _ _ _ _ _ _ _ t1 t2 hb10)
    | (with_reducible exact sgn_set W2 w10 _ _ _ _ _ _ _ _ _ _ bz t1 t2 (by omega) hb10)
 case rest =>
  obtain ⟨g11, A1, k1, A8, k8, rfl, rfl, rfl, b11, t1, t2, hg11, hb3⟩ := hcut
  obtain ⟨w3, rfl⟩ : ∃ w3 : World, w3 = wc := ⟨_, rfl⟩
  have q6 : Hid (g6 < w3.heap.size) := (x6.below hb3).lt
  replace x6 := x6.below hb3
  replace sn := Lib.hid (seesL_of sn.out (Nat.le_refl _) hb3)
  replace sp2 := Lib.hid (seesB_of sp2.out (Nat.le_refl _) hb3)
  replace hbw := Lib.hid (bgo hbw.out hb3)
  clear c0 c1 c2' K hsn hb3 su hTl hg11
  by_cases hE : rc = 0
  rotate_left
  · have hr2 : Hid (answerR sd h n ns lo hi = (([], 0, 0), [], rc)) := by show _ = _; rw [hr.out, if_neg hE]
    have hEb : (rc == 0) = false := by rw [beq_eq_false_iff_ne]; exact hE
    replace hE := Lib.hid hE
    clear b11 t1 t2
    obtain ⟨y0, y1, y2, f0, f1, f2⟩ := box3_cells x6
    go_wp2_with fail
    have k := box_set3 x6 (.slice none 0 0) (.int .i64 0) (.int .i64 0)
    have kb := Lib.hid (below_set3 hbw.out hg6.out (.slice none 0 0) (.int .i64 0) (.int .i64 0))
    clear y0 y1 y2 f0 f1 f2 x6
    generalize ((w3.setCell ⟨g6, 0, none⟩ (.slice none 0 0)).setCell ⟨g6, 1, none⟩ (.int .i64 0)).setCell ⟨g6, 2, none⟩ (.int .i64 0) = W9 at *
    obtain ⟨z0, z1, z2, -, -, -⟩ := box3_cells k
    refine bodyPost_ret (v := .tuple #[.agg #[.slice none 0 0, .int .i64 0, .int .i64 0], .slice none 0 0, .int .i64 rc]) (by simp [results, Tryz.results25, go_sem, z0, z1, z2]) rfl ?_
    exact answer_bad hr2.out kb.out
  subst hE
  have hr2 : Hid (answerR sd h n ns lo hi = ((rs, rh, rn), ansL ns rg T ns.length, 0)) := by show _ = _; rw [hr.out, if_pos rfl]
  have hrl2 := hrl.out rfl
  have hw3 : Hid (w.heap.size ≤ w3.heap.size) := by show _ ≤ _; exact hbw.out.size
  replace b11 := Lib.hid b11
  replace t1 := Lib.hid t1
  replace t2 := Lib.hid t2
  replace x6 := Lib.hid x6
  clear hr hrl
  go_wp2_with fail
  go_loopw [14, 48] (fun r t wr => ∃ k : Nat, k ≤ ns.length ∧ t = .int .i64 k ∧ Hid (OwnL wr w3.heap.size r (ansL ns rg T k)) ∧ Hid (Below w3.heap.size w3 wr)) (fun _ t _ => ns.length - (intOf t).toNat)
  case atStart => exact ⟨0, by omega, rfl, OwnL.nil _ _, Below.refl _ _⟩
  case round =>
   obtain ⟨k, hk, rfl, ho, hb⟩ := hrel
   obtain ⟨Ar, cr, rfl⟩ := ho.out.shape
   have hkl := ansL_len ns rg T k
   rw [hkl] at ho ⊢
   by_cases hlt : k < ns.length
   · have i0 : (k : Int) < (ns.length : Int) := by omega
     have hst := Lib.hid (ansL_next ns rg T k)
     have hab : Hid (ansB ns rg T k = encT (ansTags k ns.length (pathG (ns.map leafH) k).flatten rg T)) := rfl
     have hpt := path_top ns k wr.heap.size _ wr (seesL_of sn.out (Nat.le_refl _) hb.out) hlt (Nat.le_refl _) (by omega) (fun l hl => by rw [h32.out l hl]; omega)
     unfold PathPost at hpt
     obtain ⟨pl1, pl2, pl3⟩ := pathF_len ns k
     generalize pathG (ns.map leafH) k = PH at *
     have hPl : PH.flatten.length ≤ 512 := by omega
     have hjn := fun W u (hu : SeesL W W.heap.size u PH) => join_any W.heap.size u PH W hu (Nat.le_refl _) (by omega)
     generalize hPF : PH.flatten = PF at *
     replace hPF := Lib.hid hPF
     replace hjn := Lib.hid hjn
     replace hpt := Lib.hid hpt
     replace pl2 := Lib.hid pl2
     replace pl3 := Lib.hid pl3
     generalize ansL ns rg T k = acc at *
     have m1 : IntKind.u64.wrap (k : Int) = (k : Int) := by rw [IntKind.wrap_u64]; omega
     have m2 : IntKind.u64.wrap (ns.length : Int) = (ns.length : Int) := by rw [IntKind.wrap_u64]; omega
     have hp1 := Lib.hid (put4_any k (by omega))
     have hp2 := Lib.hid (put4_any ns.length (by omega))
     have hpd := Lib.hid (fun W u (hu : SeesB W W.heap.size u rg) => padded_any W.heap.size u rg W hu (Nat.le_refl _) (by omega))
     replace hkl := Lib.hid hkl
     go_wp2_with fail
     refine hpt.out.mono ?_
     rintro e w4 ⟨v4, rfl, o4, hb4⟩
     obtain ⟨A4, c4, rfl⟩ := o4.shape
     replace o4 := Lib.hid o4
     clear hpt
     dsimp only
     go_wp2_with fail
     refine (names_any w4).mono ?_
     rintro e w5 ⟨v5, rfl, s5, hb5⟩
     obtain ⟨A5, c5, rfl, -, -⟩ := s5.mk_
     replace s5 := Lib.hid s5
     dsimp only
     go_wp2_with fail
     refine (hp1.out w5).mono ?_
     rintro e w6 ⟨v6, rfl, o6, hb6⟩
     obtain ⟨A6, c6, rfl, -, -⟩ := o6.sees.mk_
     replace o6 := Lib.hid o6
     dsimp only
     go_wp2_with fail
     refine (hp2.out w6).mono ?_
     rintro e w7 ⟨v7, rfl, o7, hb7⟩
     obtain ⟨A7', c7', rfl, -, -⟩ := o7.sees.mk_
     have hb47 := bgo (bgo hb5 hb6) hb7
     replace o7 := Lib.hid o7
     have hjn7 := Lib.hid (hjn.out w7 _ (o4.out.sees.below hb47 |>.more hb47.size))
     dsimp only
     go_wp2_with fail
     refine hjn7.out.mono ?_
     rintro e w8 ⟨v8, rfl, o8, hb8⟩
     obtain ⟨A9, c9, rfl, -, -⟩ := o8.sees.mk_
     have hb38 := bgo hb.out (bgo hb4 (bgo hb47 hb8))
     have hpd8 := Lib.hid (hpd.out w8 _ (seesB_of t2.out (Nat.le_refl _) hb38))
     replace o8 := Lib.hid o8
     dsimp only
     go_wp2_with fail
     refine hpd8.out.mono ?_
     rintro e w9 ⟨v9, rfl, o9, hb9⟩
     obtain ⟨A10, c10, rfl, -, -⟩ := o9.sees.mk_
     have hb39 := bgo hb38 hb9
     have hal9 := balloc w9 (.cells #[.slice A6 (putB 4 k).length c6, .slice A7' (putB 4 ns.length).length c7', .slice A9 PF.length c9, .slice A10 (pad4 rg).length c10, .slice A7 T.length c7] 34)
     have e6 := seesB_of o6.out.sees (Nat.le_refl _) (bgo hb7 (bgo hb8 hb9))
     have e7 := seesB_of o7.out.sees (Nat.le_refl _) (bgo hb8 hb9)
     have e8 := seesB_of o8.out.sees (Nat.le_refl _) hb9
     have eT := seesB_of sp2.out (Nat.le_refl _) hb39
     have hL := seesL_lit w9 34 (vs := [.slice A6 (putB 4 k).length c6, .slice A7' (putB 4 ns.length).length c7', .slice A9 PF.length c9, .slice A10 (pad4 rg).length c10, .slice A7 T.length c7]) (ls := [putB 4 k, putB 4 ns.length, PF, pad4 rg, T]) ⟨e6, e7, e8, o9.sees, eT, trivial⟩ (by simp [maxLen])
     have s59 := (s5.out.below (bgo (bgo (bgo (bgo hb6 hb7) hb8) hb9) hal9)).more (bgo (bgo (bgo (bgo hb6 hb7) hb8) hb9) hal9).size
     have hms := message_any _ _ _ names5 [putB 4 k, putB 4 ns.length, PF, pad4 rg, T] _ s59 hL (Nat.le_refl _) rfl (by simp [names5]) (by
      have h1 := pad4_len rg
      have h2 := putB_len 4 k
      have h3 := putB_len 4 ns.length
      simp only [names5, List.zip_cons_cons, List.zip_nil_right, dataT, List.map_cons, List.map_nil, List.flatten_cons, List.flatten_nil, List.length_append, List.length_nil]
      omega)
     rw [ansTags_zip] at hms
     have hbr := Lib.hid (bgo hb39 hal9)
     have ho9 := ho.out.below (bgo (bgo (bgo (bgo hb4 hb47) hb8) hb9) hal9)
     replace ho9 := Lib.hid ho9
     replace hms := Lib.hid hms
     clear e6 e7 e8 eT hL s59 o4 s5 o6 o7 o8 o9 hb4 hb5 hb6 hb7 hb8 hb9 hb38 hb39 hb47 hjn hjn7 hpd hpd8 hp1 hp2 hal9
     dsimp only
     go_wp2_with fail
     refine hms.out.mono ?_
     rintro e w11 ⟨v11, rfl, o11, hb11⟩
     generalize encT (ansTags k ns.length PF rg T) = AB at *
     obtain ⟨A11, c11, rfl, -, -⟩ := o11.sees.mk_
     have ho4 := ho9.out.below hb11
     have hel := Elt.of_from (v := .slice Ar k cr) o11.sees o11.from (fun q hq => (ho9.out.lt q hq).2)
     have hal := balloc w11 (.cells #[.slice A11 AB.length c11] 34)
     have hbox := Lib.hid (one_cell w11 (.slice A11 AB.length c11) 34)
     replace ho4 := Lib.hid (ho4.below hal)
     have hel4 := Lib.hid (hel.below hal)
     have hb4 := Lib.hid (bgo (bgo hbr.out hb11) hal)
     clear hal hel o11 hb11 hbr hms ho9 ho
     dsimp only
     go_wp2_with (at_builtin; refine wpList_appL (by rfl) _ _ 52 Tryz.underlying52 rfl w3.heap.size _ acc rfl ho4.out _ _ _ AB rfl hbox.out hel4.out (by have := hkl.out; omega) hb4.out.size ?_)
     intro v' w' hW2 hb5
     have hW2 := Lib.hid hW2
     have hb5 := Lib.hid (hb4.out.trans hb5)
     go_wp2_with fail
     go_roundw
     case rel => exact ⟨k + 1, by omega, by go_num, by show OwnL _ _ _ _; rw [hst.out, hab.out]; exact hW2.out, hb5⟩
     case measure => simp [intOf]; omega
   · obtain rfl : k = ns.length := by omega
     have i0 : ¬ (ns.length : Int) < (ns.length : Int) := by omega
     have b11r := b11.out.below hb.out
     have t1r := Lib.hid (seesB_of t1.out (Nat.le_refl _) hb.out)
     have ta := Lib.hid (Elt.of_old (w := wr) (v := .slice Ar ns.length cr) (seesB_of t1.out (Nat.le_refl _) (Below.refl _ _) |>.below hb.out) hb.out.size (fun q hq => (ho.out.lt q hq).1)).2
     have x6r := x6.out.below hb.out
     replace hbw := Lib.hid (bgo hbw.out hb.out)
     replace hkl := Lib.hid hkl
     obtain ⟨e0, e1, e2, -, -, -⟩ := box3_cells b11r
     obtain ⟨y0, y1, y2, f0, f1, f2⟩ := box3_cells x6r
     go_wp2_with fail
     have k := box_set3 x6r (.slice A1 rs.length k1) (.int .i64 rh) (.int .i64 rn)
     have ks := Lib.hid (sees_set3 x6r (noBL3' (NoB.s none 0 0) (NoB.i 0) (NoB.i 0)) (.slice A1 rs.length k1) (.int .i64 rh) (.int .i64 rn) t1r.out)
     have ko := Lib.hid (own_set3 x6r q6.out (NoB.s none 0 0) (NoB.i 0) (NoB.i 0) (.slice A1 rs.length k1) (.int .i64 rh) (.int .i64 rn) (NoB.s _ _ _) (NoB.i _) ho.out)
     have kb := Lib.hid (below_set3 hbw.out hg6.out (.slice A1 rs.length k1) (.int .i64 rh) (.int .i64 rn))
     clear e0 e1 e2 y0 y1 y2 f0 f1 f2 x6r b11r
     generalize ((wr.setCell ⟨g6, 0, none⟩ (.slice A1 rs.length k1)).setCell ⟨g6, 1, none⟩ (.int .i64 rh)).setCell ⟨g6, 2, none⟩ (.int .i64 rn) = W9 at *
     obtain ⟨z0, z1, z2, -, -, -⟩ := box3_cells k
     refine bodyPost_ret (v := .tuple #[.agg #[.slice A1 rs.length k1, .int .i64 rh, .int .i64 rn], .slice Ar ns.length cr, .int .i64 0]) (by simp [results, Tryz.results25, go_sem, z0, z1, z2]) rfl ?_
     exact answer_ok hr2.out ks.out ta.out ko.out hw3.out kb.out
end Go.Proofs.YtgehkgjllhkhoaaGreat
namespace Go.Proofs.YtgehkgjllhkhoaaGreat
open Go Go.RowKit
set_option linter.unusedVariables false
theorem wrap_zip (a c : Bs) : namesA.zip [a, c] = wrapT a c := rfl
def DAnsP (r : GrantV × List Bs × Int) (w : World) (e : Ending) (w' : World) : Prop :=
 ∃ v1 v2 v3 v4, e = .returned (.tuple #[.agg #[v1, .int .i64 r.1.1.2.1, .int .i64 r.1.1.2.2, v2, .int .i64 r.1.2.2.1, .int .i64 r.1.2.2.2.1, v3], v4, .int .i64 r.2.2]) ∧ SeesB w' w'.heap.size v1 r.1.1.1 ∧ SeesB w' w'.heap.size v2 r.1.2.1 ∧ SeesB w' w'.heap.size v3 r.1.2.2.2.2 ∧ SeesL w' w'.heap.size v4 r.2.1 ∧ Below w.heap.size w w'
theorem dans_bad {r : GrantV × List Bs × Int} {c : Int} (h : r = (noGrant, [], c)) {w w' : World} (hb : Below w.heap.size w w') : DAnsP r w (.returned (.tuple #[.agg #[.slice none 0 0, .int .i64 0, .int .i64 0, .slice none 0 0, .int .i64 0, .int .i64 0, .slice none 0 0], .slice none 0 0, .int .i64 c])) w' := by
 subst h
 exact ⟨_, _, _, _, rfl, SeesB.nil _ _, SeesB.nil _ _, SeesB.nil _ _, (OwnL.nil w' 0).sees, hb⟩
theorem dans_ok {r : GrantV × List Bs × Int} {rs P S : Bs} {rh rn f t : Int} {ls : List Bs} (h : r = (((rs, rh, rn), (P, f, t, S)), ls, 0)) {w W : World} {v1 v2 v3 v4 : Value} (t1 : SeesB W W.heap.size v1 rs) (t2 : SeesB W W.heap.size v2 P) (t3 : SeesB W W.heap.size v3 S) (t4 : SeesL W W.heap.size v4 ls) (hb : Below w.heap.size w W) :
 DAnsP r w (.returned (.tuple #[.agg #[v1, .int .i64 rh, .int .i64 rn, v2, .int .i64 f, .int .i64 t, v3], v4, .int .i64 0])) W := by
 subst h
 exact ⟨_, _, _, _, rfl, t1, t2, t3, t4, hb⟩
def mixL (c : Bs) (ys : List Bs) (k : Nat) : List Bs := (ys.take k).map (wrapB c) ++ ys.drop k
theorem mixL_zero (c : Bs) (ys : List Bs) : mixL c ys 0 = ys := by simp [mixL]
theorem mixL_all (c : Bs) (ys : List Bs) : mixL c ys ys.length = ys.map (wrapB c) := by simp [mixL]
theorem mixL_len (c : Bs) (ys : List Bs) (k : Nat) (hk : k ≤ ys.length) : (mixL c ys k).length = ys.length := by
 simp [mixL]; omega
theorem mixL_get (c : Bs) (ys : List Bs) (k : Nat) (hk : k < ys.length) : (mixL c ys k).getD k [] = ys.getD k [] := by
 rw [List.getD_eq_getElem?_getD, List.getD_eq_getElem?_getD, mixL, List.getElem?_append_right (by simp; omega)]
 simp
 rw [Nat.min_eq_left (by omega), Nat.sub_self, Nat.add_zero]
theorem mixL_step (c : Bs) (ys : List Bs) (k : Nat) (a : Bs) (h : ys[k]? = some a) : (mixL c ys k).set k (wrapB c a) = mixL c ys (k + 1) := by
 have hk : k < ys.length := (List.getElem?_eq_some_iff.1 h).1
 have hd : ys.drop k = a :: ys.drop (k + 1) := by
  rw [List.drop_eq_getElem_cons hk]
  rw [List.getElem?_eq_getElem hk] at h
  cases h
  rfl
 unfold mixL
 have hl : ((ys.take k).map (wrapB c)).length = k := by simp; omega
 rw [take_one ys k a h, List.map_append, hd, List.set_append, if_neg (by omega), hl, Nat.sub_self, List.append_assoc]
 rfl
end Go.Proofs.YtgehkgjllhkhoaaGreat
namespace Go.Proofs.YtgehkgjllhkhoaaGreat
open Go Go.RowKit
set_option linter.unusedVariables false
set_option linter.unusedSimpArgs false
attribute [local go_sem ↓] Go.wp_at_zero Go.wp_at_succ
def KGrP (v1 : Value) (h n : Int) (P : Bs) (f t : Int) (S : Bs) (w : World) (e : Ending) (w' : World) : Prop :=
 ∃ v2 v3, e = .returned (.agg #[v1, .int .i64 h, .int .i64 n, v2, .int .i64 f, .int .i64 t, v3]) ∧ SeesB w' w'.heap.size v2 P ∧ SeesB w' w'.heap.size v3 S ∧ Below w.heap.size w w'
def GrR (wB : World) (g5 : Nat) (P : Bs) (f t : Int) (S : Bs) (W : World) : Prop :=
 ∃ A2 c2 A3 c3, Box W g5 82 [.slice A2 P.length c2, .int .i64 f, .int .i64 t, .slice A3 S.length c3] ∧ SeesB W W.heap.size (.slice A2 P.length c2) P ∧ SeesB W W.heap.size (.slice A3 S.length c3) S ∧ Below wB.heap.size wB W
section
variable {wB W : World} {g : Nat} {P S : Bs} {f t : Int} {B2 B3 : Option Addr} {d2 d3 : Nat} {a : Option Addr} {n c : Nat} {a' : Option Addr} {n' c' : Nat}
theorem sees_one {T : TypeId} {j : Nat} {v u : Value} {l : Bs} {xs : List Value} (x : Box W g T xs) (hn : NoByte xs) (hs : SeesB W W.heap.size u l) : SeesB (W.setCell ⟨g, j, none⟩ v) (W.setCell ⟨g, j, none⟩ v).heap.size u l := (hs.poke x hn).more (by simp [World.setCell])
theorem noD4 : NoByte [Value.slice a n c, .int .i64 f, .int .i64 t, .slice a' n' c'] := noBL4 (NoB.s _ _ _) (NoB.i _) (NoB.i _) (NoB.s _ _ _)
theorem grr_c (x : Box W g 82 [.slice B2 P.length d2, .int .i64 f, .int .i64 t, .slice a' n' c']) (m2 : SeesB W W.heap.size (.slice B2 P.length d2) P) (m3 : SeesB W W.heap.size (.slice B3 S.length d3) S) (hb : Below wB.heap.size wB W) (hg : wB.heap.size ≤ g) :
 GrR wB g P f t S (W.setCell ⟨g, 3, none⟩ (.slice B3 S.length d3)) := by
 have y := x.set 3 (.slice B3 S.length d3)
 simp only [List.set_cons_succ, List.set_cons_zero] at y
 exact ⟨B2, d2, B3, d3, y, sees_one x noD4 m2, sees_one x noD4 m3, hb.setCell (p := ⟨g, 3, none⟩) hg _⟩
theorem grr_a (x : Box W g 82 [.slice a n c, .int .i64 f, .int .i64 t, .slice a' n' c']) (m2 : SeesB W W.heap.size (.slice B2 P.length d2) P) (m3 : SeesB W W.heap.size (.slice B3 S.length d3) S) (hb : Below wB.heap.size wB W) (hg : wB.heap.size ≤ g) :
 GrR wB g P f t S ((W.setCell ⟨g, 0, none⟩ (.slice B2 P.length d2)).setCell ⟨g, 3, none⟩ (.slice B3 S.length d3)) := by
 have y := x.set 0 (.slice B2 P.length d2)
 simp only [List.set_cons_succ, List.set_cons_zero] at y
 exact grr_c y (sees_one x noD4 m2) (sees_one x noD4 m3) (hb.setCell (p := ⟨g, 0, none⟩) hg _) hg
theorem grr_b (x : Box W g 82 [.slice a n c, .int .i64 f, .int .i64 t, .slice a' n' c']) (m2 : SeesB W W.heap.size (.slice B2 P.length d2) P) (m3 : SeesB W W.heap.size (.slice B3 S.length d3) S) (hb : Below wB.heap.size wB W) (hg : wB.heap.size ≤ g) :
 GrR wB g P f t S ((W.setCell ⟨g, 3, none⟩ (.slice B3 S.length d3)).setCell ⟨g, 0, none⟩ (.slice B2 P.length d2)) := by
 have y := x.set 3 (.slice B3 S.length d3)
 simp only [List.set_cons_succ, List.set_cons_zero] at y
 have z := y.set 0 (.slice B2 P.length d2)
 simp only [List.set_cons_succ, List.set_cons_zero] at z
 exact ⟨B2, d2, B3, d3, z, sees_one y noD4 (sees_one x noD4 m2), sees_one y noD4 (sees_one x noD4 m3), (hb.setCell (p := ⟨g, 3, none⟩) hg _).setCell (p := ⟨g, 0, none⟩) hg _⟩
end
set_option maxRecDepth 100000 in
set_option maxHeartbeats 4000000 in
theorem kgranted2_any (B : Nat) (A0 : Option Addr) (n00 c00 : Nat) (A1 : Option Addr) (n1 c1 : Nat) (u2 u3 : Value) (h0 n0 h n : Int) (P S : Bs) (f t : Int) (w : World) (hu2 : SeesB w B u2 P) (hu3 : SeesB w B u3 S) (hB : B ≤ w.heap.size) (hP : P.length ≤ 1048576) (hS : S.length ≤ 1048576) :
 Calls Tryz.prog 107 #[.agg #[.slice A0 n00 c00, .int .i64 h0, .int .i64 n0, u2, .int .i64 f, .int .i64 t, u3],   .agg #[.slice A1 n1 c1, .int .i64 h, .int .i64 n]] w (KGrP (.slice A1 n1 c1) h n P f t S w) := by
 obtain ⟨A2, c2, rfl, -, -⟩ := hu2.mk_
 obtain ⟨A3, c3, rfl, -, -⟩ := hu3.mk_
 have b4 := bgo (bgo (bgo (balloc w (.cells #[.slice A0 n00 c00, .int .i64 h0, .int .i64 n0, .slice A2 P.length c2, .int .i64 f, .int .i64 t, .slice A3 S.length c3] 84)) (balloc _ (.cells #[.slice A1 n1 c1, .int .i64 h, .int .i64 n] 43))) (balloc _ (.cells #[.slice none 0 0, .int .i64 0, .int .i64 0, .slice none 0 0, .int .i64 0, .int .i64 0, .slice none 0 0] 84))) (balloc _ (.cells #[.slice A2 P.length c2, .int .i64 f, .int .i64 t, .slice A3 S.length c3] 82))
 have bB := Lib.hid (bgo (bgo (balloc w (.cells #[.slice A0 n00 c00, .int .i64 h0, .int .i64 n0, .slice A2 P.length c2, .int .i64 f, .int .i64 t, .slice A3 S.length c3] 84)) (balloc _ (.cells #[.slice A1 n1 c1, .int .i64 h, .int .i64 n] 43))) (balloc _ (.cells #[.slice none 0 0, .int .i64 0, .int .i64 0, .slice none 0 0, .int .i64 0, .int .i64 0, .slice none 0 0] 84)))
 have x3 := ((Box.new (w.alloc (.cells #[.slice A0 n00 c00, .int .i64 h0, .int .i64 n0, .slice A2 P.length c2, .int .i64 f, .int .i64 t, .slice A3 S.length c3] 84)) 43 [.slice A1 n1 c1, .int .i64 h, .int .i64 n]).below (balloc _ (.cells #[.slice none 0 0, .int .i64 0, .int .i64 0, .slice none 0 0, .int .i64 0, .int .i64 0, .slice none 0 0] 84))).below (balloc _ (.cells #[.slice A2 P.length c2, .int .i64 f, .int .i64 t, .slice A3 S.length c3] 82))
 have x4 := (Box.new ((w.alloc (.cells #[.slice A0 n00 c00, .int .i64 h0, .int .i64 n0, .slice A2 P.length c2, .int .i64 f, .int .i64 t, .slice A3 S.length c3] 84)).alloc (.cells #[.slice A1 n1 c1, .int .i64 h, .int .i64 n] 43)) 84 [.slice none 0 0, .int .i64 0, .int .i64 0, .slice none 0 0, .int .i64 0, .int .i64 0, .slice none 0 0]).below (balloc _ (.cells #[.slice A2 P.length c2, .int .i64 f, .int .i64 t, .slice A3 S.length c3] 82))
 have x5 := Box.new (((w.alloc (.cells #[.slice A0 n00 c00, .int .i64 h0, .int .i64 n0, .slice A2 P.length c2, .int .i64 f, .int .i64 t, .slice A3 S.length c3] 84)).alloc (.cells #[.slice A1 n1 c1, .int .i64 h, .int .i64 n] 43)).alloc (.cells #[.slice none 0 0, .int .i64 0, .int .i64 0, .slice none 0 0, .int .i64 0, .int .i64 0, .slice none 0 0] 84)) 82 [.slice A2 P.length c2, .int .i64 f, .int .i64 t, .slice A3 S.length c3]
 have bD := Lib.hid (balloc (((w.alloc (.cells #[.slice A0 n00 c00, .int .i64 h0, .int .i64 n0, .slice A2 P.length c2, .int .i64 f, .int .i64 t, .slice A3 S.length c3] 84)).alloc (.cells #[.slice A1 n1 c1, .int .i64 h, .int .i64 n] 43)).alloc (.cells #[.slice none 0 0, .int .i64 0, .int .i64 0, .slice none 0 0, .int .i64 0, .int .i64 0, .slice none 0 0] 84)) (.cells #[.slice A2 P.length c2, .int .i64 f, .int .i64 t, .slice A3 S.length c3] 82))
 have hgB : (((w.alloc (.cells #[.slice A0 n00 c00, .int .i64 h0, .int .i64 n0, .slice A2 P.length c2, .int .i64 f, .int .i64 t, .slice A3 S.length c3] 84)).alloc (.cells #[.slice A1 n1 c1, .int .i64 h, .int .i64 n] 43)).alloc (.cells #[.slice none 0 0, .int .i64 0, .int .i64 0, .slice none 0 0, .int .i64 0, .int .i64 0, .slice none 0 0] 84)).heap.size = w.heap.size + 1 + 1 + 1 := by rw [World.size_alloc, World.size_alloc, World.size_alloc]
 rw [World.size_alloc] at x3
 rw [World.size_alloc, World.size_alloc] at x4
 rw [World.size_alloc, World.size_alloc, World.size_alloc] at x5
 have s2 := seesB_of hu2 hB b4
 have s3 := seesB_of hu3 hB b4
 change Box ((((w.alloc (.cells #[.slice A0 n00 c00, .int .i64 h0, .int .i64 n0, .slice A2 P.length c2, .int .i64 f, .int .i64 t, .slice A3 S.length c3] 84)).alloc (.cells #[.slice A1 n1 c1, .int .i64 h, .int .i64 n] 43)).alloc (.cells #[.slice none 0 0, .int .i64 0, .int .i64 0, .slice none 0 0, .int .i64 0, .int .i64 0, .slice none 0 0] 84)).alloc (.cells #[.slice A2 P.length c2, .int .i64 f, .int .i64 t, .slice A3 S.length c3] 82)) _ _ _ at x3 x4 x5
 have hg4 : w.heap.size ≤ w.heap.size + 1 + 1 := by omega
 replace hg4 := Lib.hid hg4
 replace hgB := Lib.hid hgB
 clear hu2 hu3 b4
 go_enter Tryz.func107, Tryz.ntmps107
 go_wp2_with fail
 generalize ((w.alloc (.cells #[.slice A0 n00 c00, .int .i64 h0, .int .i64 n0, .slice A2 P.length c2, .int .i64 f, .int .i64 t, .slice A3 S.length c3] 84)).alloc (.cells #[.slice A1 n1 c1, .int .i64 h, .int .i64 n] 43)).alloc (.cells #[.slice none 0 0, .int .i64 0, .int .i64 0, .slice none 0 0, .int .i64 0, .int .i64 0, .slice none 0 0] 84) = wB at *
 generalize wB.alloc (.cells #[.slice A2 P.length c2, .int .i64 f, .int .i64 t, .slice A3 S.length c3] 82) = W0 at *
 generalize hG5 : w.heap.size + 1 + 1 + 1 = g5 at *
 generalize hG4 : w.heap.size + 1 + 1 = g4 at *
 generalize hG3 : w.heap.size + 1 = g3 at *
 have hn35 : g3 < g5 := by omega
 have hn45 : g4 < g5 := by omega
 replace hG5 := Lib.hid hG5
 replace hG4 := Lib.hid hG4
 replace hG3 := Lib.hid hG3
 have hgBl : Hid (wB.heap.size ≤ g5) := by show _ ≤ _; have := hgB.out; omega
 have hc0 := Lib.hid (bclone_any _ _ P W0.drew (seesB_of s2 (Nat.le_refl _) (bdrew W0)) (Nat.le_refl _) (by omega))
 have hc0' := Lib.hid (bclone_any _ _ P W0 s2 (Nat.le_refl _) (by omega))
 have hc3 := Lib.hid (fun W (hs : SeesB W W.heap.size (.slice A3 S.length c3) S) => bclone_any W.heap.size _ S W hs (Nat.le_refl _) (by omega))
 have x34 := Lib.hid (show (∀ W, Below wB.heap.size wB W → Box W g3 43 [.slice A1 n1 c1, .int .i64 h, .int .i64 n] ∧ Box W g4 84 [.slice none 0 0, .int .i64 0, .int .i64 0, .slice none 0 0, .int .i64 0, .int .i64 0, .slice none 0 0]) from fun W hW => by
  have e3 : Box wB g3 43 [.slice A1 n1 c1, .int .i64 h, .int .i64 n] := (bD.out.block g3 (by have := hgB.out; omega)).symm.trans x3
  have e4 : Box wB g4 84 [.slice none 0 0, .int .i64 0, .int .i64 0, .slice none 0 0, .int .i64 0, .int .i64 0, .slice none 0 0] := (bD.out.block g4 (by have := hgB.out; omega)).symm.trans x4
  exact ⟨e3.below hW, e4.below hW⟩)
 obtain ⟨y0, y1, y2, y3, f0, f1, f2, f3⟩ := box4_cells x5
 replace s3 := Lib.hid s3
 clear x3 x4 s2 hn35 hn45
 go_cut [10] (fun v W => GrR wB g5 P f t S W)
 case first =>
  clear y1 y2 f1 f2
  go_region_with
   (first
    | (go_at_call_of 66 (A2); (with_reducible refine hc0.out.mono ?_); rintro e w1 ⟨v2', rfl, o1, hb1⟩
       obtain ⟨B2, d2, rfl, -, -⟩ := o1.sees.mk_
       have m2 := o1.sees
       replace hb1 := bgo (bdrew W0) hb1
       have x51 := x5.below hb1
       have s31 := seesB_of s3.out (Nat.le_refl _) hb1
       obtain ⟨e0, -, -, e3, j0, -, -, j3⟩ := box4_cells x51)
    | (go_at_call_of 66 (A2); (with_reducible refine hc0'.out.mono ?_); rintro e w1 ⟨v2', rfl, o1, hb1⟩
       obtain ⟨B2, d2, rfl, -, -⟩ := o1.sees.mk_
       have m2 := o1.sees
       have x51 := x5.below hb1
       have s31 := seesB_of s3.out (Nat.le_refl _) hb1
       obtain ⟨e0, -, -, e3, j0, -, -, j3⟩ := box4_cells x51)
    | (go_at_call_of 66 (A3); (with_reducible refine (hc3.out w1 s31).mono ?_); rintro e w2 ⟨v3', rfl, o2, hb2⟩
       obtain ⟨B3, d3, rfl, -, -⟩ := o2.sees.mk_
       have m3 := o2.sees
       replace m2 := seesB_of m2 (Nat.le_refl _) hb2
       have x52 := x51.below hb2
       have hb2' := bgo bD.out (bgo hb1 hb2)
       obtain ⟨i0, -, -, i3, k0, -, -, k3⟩ := box4_cells x52)
    | (go_at_call_of 66 (A3); (with_reducible refine (hc3.out (w1.setCell ⟨g5, 0, none⟩ (.slice B2 P.length d2)) (sees_one x51 noD4 s31)).mono ?_); rintro e w2 ⟨v3', rfl, o2, hb2⟩
       obtain ⟨B3, d3, rfl, -, -⟩ := o2.sees.mk_
       have m3 := o2.sees
       have x52 := (show Box (w1.setCell ⟨g5, 0, none⟩ (.slice B2 P.length d2)) g5 82 [.slice B2 P.length d2, .int .i64 f, .int .i64 t, .slice A3 S.length c3] by have y := x51.set 0 (.slice B2 P.length d2); simpa only [List.set_cons_succ, List.set_cons_zero] using y).below hb2
       replace m2 := seesB_of (sees_one (j := 0) (v := .slice B2 P.length d2) x51 noD4 m2) (Nat.le_refl _) hb2
       have hb2' := bgo ((bgo bD.out hb1).setCell (p := ⟨g5, 0, none⟩) hgBl.out (.slice B2 P.length d2)) hb2
       obtain ⟨i0, -, -, i3, k0, -, -, k3⟩ := box4_cells x52))
  all_goals
   go_wp2_with fail
   go_meet
   first
    | (with_reducible exact grr_a x52 m2 m3 hb2' hgBl.out)
    | (with_reducible exact grr_b x52 m2 m3 hb2' hgBl.out)
    | (with_reducible exact grr_c x52 m2 m3 hb2' hgBl.out)
 case rest =>
  obtain ⟨B2, d2, B3, d3, x5', m2, m3, hb⟩ := hcut
  obtain ⟨w2, rfl⟩ : ∃ w2 : World, w2 = wc := ⟨_, rfl⟩
  obtain ⟨e3, e4⟩ := x34.out w2 hb
  have hbw := Lib.hid (bgo bB.out hb)
  clear x34 y0 y1 y2 y3 f0 f1 f2 f3 x5 hb
  obtain ⟨z0, z1, z2, z3, -, -, -, -⟩ := box4_cells x5'
  obtain ⟨a0, a1, a2, -, -, -⟩ := box3_cells e3
  obtain ⟨q0, q1, q2, q3, q4, q5, q6⟩ := box7_cells e4
  obtain ⟨r0, r1, r2, r3, r4, r5, r6⟩ := box7_soft e4
  go_wp2_with fail
  have k := box_set7 e4 (.slice A1 n1 c1) (.int .i64 h) (.int .i64 n) (.slice B2 P.length d2) (.int .i64 f) (.int .i64 t) (.slice B3 S.length d3)
  have k2 := Lib.hid (sees_set7 e4 noZ7 (.slice A1 n1 c1) (.int .i64 h) (.int .i64 n) (.slice B2 P.length d2) (.int .i64 f) (.int .i64 t) (.slice B3 S.length d3) m2)
  have k3 := Lib.hid (sees_set7 e4 noZ7 (.slice A1 n1 c1) (.int .i64 h) (.int .i64 n) (.slice B2 P.length d2) (.int .i64 f) (.int .i64 t) (.slice B3 S.length d3) m3)
  have kb := Lib.hid (below_set7 hbw.out hg4.out (.slice A1 n1 c1) (.int .i64 h) (.int .i64 n) (.slice B2 P.length d2) (.int .i64 f) (.int .i64 t) (.slice B3 S.length d3))
  clear z0 z1 z2 z3 a0 a1 a2 q0 q1 q2 q3 q4 q5 q6 r0 r1 r2 r3 r4 r5 r6 e3 e4 x5' m2 m3
  generalize ((((((w2.setCell ⟨g4, 0, none⟩ (.slice A1 n1 c1)).setCell ⟨g4, 1, none⟩ (.int .i64 h)).setCell ⟨g4, 2, none⟩ (.int .i64 n)).setCell ⟨g4, 3, none⟩ (.slice B2 P.length d2)).setCell ⟨g4, 4, none⟩ (.int .i64 f)).setCell ⟨g4, 5, none⟩ (.int .i64 t)).setCell ⟨g4, 6, none⟩ (.slice B3 S.length d3) = W9 at *
  obtain ⟨z0, z1, z2, z3, z4, z5, z6⟩ := box7_cells k
  refine bodyPost_ret (v := .agg #[.slice A1 n1 c1, .int .i64 h, .int .i64 n, .slice B2 P.length d2, .int .i64 f, .int .i64 t, .slice B3 S.length d3]) (by simp [results, Tryz.results107, go_sem, z0, z1, z2, z3, z4, z5, z6]) rfl ?_
  exact ⟨_, _, rfl, k2.out, k3.out, kb.out⟩
end Go.Proofs.YtgehkgjllhkhoaaGreat
namespace Go.Proofs.YtgehkgjllhkhoaaGreat
open Go Go.RowKit
set_option linter.unusedVariables false
set_option linter.unusedSimpArgs false
attribute [local go_sem ↓] Go.wp_at_zero Go.wp_at_succ
theorem dnames_eq (w : World) : Calls Tryz.prog 106 #[] w fun e w' => e = .returned (.tuple #[.slice (some ⟨w.heap.size, 0, none⟩) 3 3, .slice (some ⟨w.heap.size + 1, 0, none⟩) 2 2]) ∧ w' = (w.alloc (.cells #[.string ⟨#[75, 69, 89, 83]⟩, .string ⟨#[83, 73, 71, 78]⟩, .string ⟨#[83, 80, 65, 78]⟩] 9)).alloc (.cells #[.string ⟨#[65, 78, 83, 87]⟩, .string ⟨#[67, 69, 82, 84]⟩] 9) := by
 go_enter Tryz.func106, Tryz.ntmps106
 go_wp2_with fail
 go_returns
 exact ⟨rfl, rfl⟩
theorem namesA_box {W : World} {g : Nat} (x : Box W g 9 [.string ⟨#[65, 78, 83, 87]⟩, .string ⟨#[67, 69, 82, 84]⟩]) : SeesR W W.heap.size (.slice (some ⟨g, 0, none⟩) 2 2) 1 namesA.length (nameS namesA) := by
 refine ⟨rfl, [.string ⟨#[65, 78, 83, 87]⟩, .string ⟨#[67, 69, 82, 84]⟩], ⟨rfl, _, _, rfl, Nat.le_refl 2, by simp [maxLen], fun _ => ⟨g, 0, rfl, x.lt, fun j u hu => ?_⟩⟩, fun k s hk => ?_⟩
 · rw [Nat.zero_add, x.cell]
   exact hu
 · have e1 : nameS namesA = [Spec.val (.string (strB nANSW)), Spec.val (.string (strB nCERT))] := rfl
   rw [e1] at hk
   match k, hk with
   | 0, hk => cases hk; exact ⟨_, rfl, rfl, rfl⟩
   | 1, hk => cases hk; exact ⟨_, rfl, rfl, rfl⟩
   | k + 2, hk => simp at hk
theorem below_boxB {W W' : World} {B g : Nat} {T : TypeId} {xs : List Value} (hb : Below B W W') (x : Box W g T xs) (hg : g < B) : Box W' g T xs := (hb.block g hg).trans x
set_option maxRecDepth 100000 in
set_option maxHeartbeats 8000000 in
theorem danswer_any (B : Nat) (u u2 u3 u4 : Value) (sd : Bs) (h n : Int) (P : Bs) (f t : Int) (S : Bs) (ns : List Bs) (lo hi : Int) (w : World) (hu : SeesB w B u sd) (hu2 : SeesB w B u2 P) (hu3 : SeesB w B u3 S) (hu4 : SeesL w B u4 ns) (hB : B ≤ w.heap.size) (hP : P.length ≤ 1048576) (hS : S.length ≤ 1048576) (hn : ns.length ≤ 1048576) :
 Calls Tryz.prog 50 #[.agg #[u, .int .i64 h, .int .i64 n, u2, .int .i64 f, .int .i64 t, u3], u4, .agg #[.int .i64 lo, .int .i64 hi]] w (DAnsP (dansR sd h n P f t S ns lo hi) w) := by
 obtain ⟨A, c, rfl, -, -⟩ := hu.mk_
 obtain ⟨A2, c2, rfl, -, -⟩ := hu2.mk_
 obtain ⟨A3, c3, rfl, -, -⟩ := hu3.mk_
 obtain ⟨A4, c4, rfl, -, -⟩ := hu4.mk_
 have b3 := bgo (bgo (balloc w (.cells #[.slice A sd.length c, .int .i64 h, .int .i64 n, .slice A2 P.length c2, .int .i64 f, .int .i64 t, .slice A3 S.length c3] 84)) (balloc _ (.cells #[.int .i64 lo, .int .i64 hi] 23))) (balloc _ (.cells #[.slice none 0 0, .int .i64 0, .int .i64 0, .slice none 0 0, .int .i64 0, .int .i64 0, .slice none 0 0] 84))
 have x3 := ((Box.new w 84 [.slice A sd.length c, .int .i64 h, .int .i64 n, .slice A2 P.length c2, .int .i64 f, .int .i64 t, .slice A3 S.length c3]).below (balloc _ (.cells #[.int .i64 lo, .int .i64 hi] 23))).below (balloc _ (.cells #[.slice none 0 0, .int .i64 0, .int .i64 0, .slice none 0 0, .int .i64 0, .int .i64 0, .slice none 0 0] 84))
 have x5 := (Box.new (w.alloc (.cells #[.slice A sd.length c, .int .i64 h, .int .i64 n, .slice A2 P.length c2, .int .i64 f, .int .i64 t, .slice A3 S.length c3] 84)) 23 [.int .i64 lo, .int .i64 hi]).below (balloc _ (.cells #[.slice none 0 0, .int .i64 0, .int .i64 0, .slice none 0 0, .int .i64 0, .int .i64 0, .slice none 0 0] 84))
 have x6 := Box.new ((w.alloc (.cells #[.slice A sd.length c, .int .i64 h, .int .i64 n, .slice A2 P.length c2, .int .i64 f, .int .i64 t, .slice A3 S.length c3] 84)).alloc (.cells #[.int .i64 lo, .int .i64 hi] 23)) 84 [.slice none 0 0, .int .i64 0, .int .i64 0, .slice none 0 0, .int .i64 0, .int .i64 0, .slice none 0 0]
 rw [World.size_alloc] at x5
 rw [World.size_alloc, World.size_alloc] at x6
 have su := Lib.hid (seesB_of hu hB b3)
 have sP := Lib.hid (seesB_of hu2 hB b3)
 have sS := Lib.hid (seesB_of hu3 hB b3)
 have sn := Lib.hid (seesL_of hu4 hB b3)
 have hg6 : w.heap.size ≤ w.heap.size + 1 + 1 := by omega
 replace hg6 := Lib.hid hg6
 have hn9 := Lib.hid hn
 have hP9 := Lib.hid hP
 have hS9 := Lib.hid hS
 have hbw := Lib.hid b3
 have hD : Hid (dansR sd h n P f t S ns lo hi = if dencC P f t S = 0 then
  (if (answerR sd h n ns lo hi).2.2 = 0 then
   (if inS lo hi f t = true then
    (if wrapOk (dencB P f t S) (answerR sd h n ns lo hi).2.1 = true then (((answerR sd h n ns lo hi).1, (P, f, t, S)), (answerR sd h n ns lo hi).2.1.map (wrapB (dencB P f t S)), 0)
    else (noGrant, [], 2))
   else (noGrant, [], 25))
  else (noGrant, [], (answerR sd h n ns lo hi).2.2))
 else (noGrant, [], dencC P f t S)) := rfl
 clear hu hu2 hu3 hu4 b3 hn hP hS
 change Box (((w.alloc (.cells #[.slice A sd.length c, .int .i64 h, .int .i64 n, .slice A2 P.length c2, .int .i64 f, .int .i64 t, .slice A3 S.length c3] 84)).alloc (.cells #[.int .i64 lo, .int .i64 hi] 23)).alloc (.cells #[.slice none 0 0, .int .i64 0, .int .i64 0, .slice none 0 0, .int .i64 0, .int .i64 0, .slice none 0 0] 84)) _ _ _ at x3 x5 x6
 have hen := dencode_any _ _ _ P S f t (((w.alloc (.cells #[.slice A sd.length c, .int .i64 h, .int .i64 n, .slice A2 P.length c2, .int .i64 f, .int .i64 t, .slice A3 S.length c3] 84)).alloc (.cells #[.int .i64 lo, .int .i64 hi] 23)).alloc (.cells #[.slice none 0 0, .int .i64 0, .int .i64 0, .slice none 0 0, .int .i64 0, .int .i64 0, .slice none 0 0] 84)) sP.out sS.out (Nat.le_refl _) hP9.out hS9.out
 unfold DEncP at hen
 replace hen := Lib.hid hen
 go_enter Tryz.func50, Tryz.ntmps50
 go_upto_region 1 with (fail)
 generalize ((w.alloc (.cells #[.slice A sd.length c, .int .i64 h, .int .i64 n, .slice A2 P.length c2, .int .i64 f, .int .i64 t, .slice A3 S.length c3] 84)).alloc (.cells #[.int .i64 lo, .int .i64 hi] 23)).alloc (.cells #[.slice none 0 0, .int .i64 0, .int .i64 0, .slice none 0 0, .int .i64 0, .int .i64 0, .slice none 0 0] 84) = W0 at *
 generalize hG6 : w.heap.size + 1 + 1 = g6 at *
 generalize hG5 : w.heap.size + 1 = g5 at *
 generalize hG3 : w.heap.size = g3 at x3 ⊢
 replace hG6 := Lib.hid hG6
 replace hG5 := Lib.hid hG5
 replace hG3 := Lib.hid hG3
 obtain ⟨-, -, -, a3, a4, a5, a6⟩ := box7_cells x3
 go_wp2_with fail
 refine hen.out.mono ?_
 rintro e w1 ⟨v9, rfl, o9, hb1⟩
 obtain ⟨A9, c9, rfl, -, -⟩ := o9.sees.mk_
 replace x3 := x3.below hb1
 replace x5 := x5.below hb1
 replace x6 := x6.below hb1
 replace su := Lib.hid (seesB_of su.out (Nat.le_refl _) hb1)
 replace sn := Lib.hid (seesL_of sn.out (Nat.le_refl _) hb1)
 replace sP := Lib.hid (seesB_of sP.out (Nat.le_refl _) hb1)
 replace sS := Lib.hid (seesB_of sS.out (Nat.le_refl _) hb1)
 replace hbw := Lib.hid (bgo hbw.out hb1)
 have sc := Lib.hid o9.sees
 clear a3 a4 a5 a6 hen hb1 o9
 dsimp only
 by_cases E1 : dencC P f t S = 0
 rotate_left
 · have hr : Hid (dansR sd h n P f t S ns lo hi = (noGrant, [], dencC P f t S)) := by show _ = _; rw [hD.out, if_neg E1]
   have hE : (dencC P f t S == 0) = false := by simp [E1]
   generalize dencC P f t S = E at *
   replace E1 := Lib.hid E1
   clear x3 x5 sc
   obtain ⟨y0, y1, y2, y3, y4, y5, y6⟩ := box7_cells x6
   obtain ⟨f0, f1, f2, f3, f4, f5, f6⟩ := box7_soft x6
   go_wp2_with fail
   have k := box_set7 x6 (.slice none 0 0) (.int .i64 0) (.int .i64 0) (.slice none 0 0) (.int .i64 0) (.int .i64 0) (.slice none 0 0)
   have kb := Lib.hid (below_set7 hbw.out hg6.out (.slice none 0 0) (.int .i64 0) (.int .i64 0) (.slice none 0 0) (.int .i64 0) (.int .i64 0) (.slice none 0 0))
   clear y0 y1 y2 y3 y4 y5 y6 f0 f1 f2 f3 f4 f5 f6 x6
   generalize ((((((w1.setCell ⟨g6, 0, none⟩ (.slice none 0 0)).setCell ⟨g6, 1, none⟩ (.int .i64 0)).setCell ⟨g6, 2, none⟩ (.int .i64 0)).setCell ⟨g6, 3, none⟩ (.slice none 0 0)).setCell ⟨g6, 4, none⟩ (.int .i64 0)).setCell ⟨g6, 5, none⟩ (.int .i64 0)).setCell ⟨g6, 6, none⟩ (.slice none 0 0) = W9 at *
   obtain ⟨z0, z1, z2, z3, z4, z5, z6⟩ := box7_cells k
   try simp only [Exit.inBlock, Exit.then]
   refine bodyPost_ret (v := .tuple #[.agg #[.slice none 0 0, .int .i64 0, .int .i64 0, .slice none 0 0, .int .i64 0, .int .i64 0, .slice none 0 0], .slice none 0 0, .int .i64 E]) (by simp [results, Tryz.results50, go_sem, z0, z1, z2, z3, z4, z5, z6]) rfl ?_
   exact dans_bad hr.out kb.out
 have hcl : Hid ((dencB P f t S).length ≤ 2048) := by
  obtain ⟨e1, e2⟩ := dtags_enc P f t S E1
  show _ ≤ _
  rw [← e2]
  exact encT_len _
 have hcm := Lib.hid (denc_mod P f t S)
 rw [E1, if_pos rfl] at hD
 rw [E1]
 replace E1 := Lib.hid E1
 generalize dencB P f t S = C at *
 have hans := answer_any w1.heap.size _ _ sd h n ns lo hi w1 su.out sn.out (Nat.le_refl _) hn9.out
 have hal9 : Hid ((answerR sd h n ns lo hi).2.2 = 0 → 1 ≤ (answerR sd h n ns lo hi).2.1.length ∧ (answerR sd h n ns lo hi).2.1.length ≤ 16 ∧ (∀ a ∈ (answerR sd h n ns lo hi).2.1, a.length ≤ 2048 ∧ a.length % 4 = 0)) := fun h0 => answer_props h0
 unfold AnswerP at hans
 generalize answerR sd h n ns lo hi = R at *
 obtain ⟨⟨rs, rh, rn⟩, ys, rc⟩ := R
 dsimp only at hans hD hal9
 replace hans := Lib.hid hans
 obtain ⟨a0, a1, a2, -, -, -, -⟩ := box7_cells x3
 obtain ⟨b0, b1⟩ := boxT2 x5
 go_wp2_with fail
 refine hans.out.mono ?_
 rintro e w2 ⟨v7, v12, rfl, el, o12, hb2⟩
 obtain ⟨A7, c7, rfl, -, -⟩ := el.1.mk_
 obtain ⟨A12, c12, rfl⟩ := o12.shape
 have hlt2 := Lib.hid (fun k hk => o12.lt k hk)
 have hal2 := balloc w2 (.cells #[.slice A7 rs.length c7, .int .i64 rh, .int .i64 rn] 43)
 have x11 := Box.new w2 43 [.slice A7 rs.length c7, .int .i64 rh, .int .i64 rn]
 change Box (w2.alloc (.cells #[.slice A7 rs.length c7, .int .i64 rh, .int .i64 rn] 43)) _ _ _ at x11
 have hb12 := Lib.hid (bgo hb2 hal2)
 have z6 := x6.lt
 have z3 := x3.lt
 replace z6 := Lib.hid z6
 replace z3 := Lib.hid z3
 have hw1w := Lib.hid hbw.out
 have sc1 := sc
 have sP1 := sP
 have sS1 := sS
 have x31 := Lib.hid x3
 have x61 := Lib.hid x6
 replace x3 := x3.below hb12.out
 replace x5 := x5.below hb12.out
 replace x6 := x6.below hb12.out
 replace su := Lib.hid (seesB_of su.out (Nat.le_refl _) hb12.out)
 replace sn := Lib.hid (seesL_of sn.out (Nat.le_refl _) hb12.out)
 replace sP := Lib.hid (seesB_of sP.out (Nat.le_refl _) hb12.out)
 replace sS := Lib.hid (seesB_of sS.out (Nat.le_refl _) hb12.out)
 replace hbw := Lib.hid (bgo hbw.out hb12.out)
 replace sc := Lib.hid (seesB_of sc.out (Nat.le_refl _) hb12.out)
 replace o12 := Lib.hid (o12.below hal2)
 replace el := Lib.hid (el.below hal2)
 clear hb2 hal2 hans a0 a1 a2 b0 b1
 dsimp only
 go_upto_region 5 with (fail)
 generalize w2.alloc (.cells #[.slice A7 rs.length c7, .int .i64 rh, .int .i64 rn] 43) = W2 at *
 generalize hG11 : w2.heap.size = g11 at *
 replace hG11 := Lib.hid hG11
 by_cases E2 : rc = 0
 rotate_left
 · have hr : Hid (dansR sd h n P f t S ns lo hi = (noGrant, [], rc)) := by show _ = _; rw [hD.out, if_neg E2]
   have hE : (rc == 0) = false := by simp [E2]
   replace E2 := Lib.hid E2
   clear x3 x5 sc x11 o12 el
   obtain ⟨y0, y1, y2, y3, y4, y5, y6⟩ := box7_cells x6
   obtain ⟨f0, f1, f2, f3, f4, f5, f6⟩ := box7_soft x6
   go_wp2_with fail
   have k := box_set7 x6 (.slice none 0 0) (.int .i64 0) (.int .i64 0) (.slice none 0 0) (.int .i64 0) (.int .i64 0) (.slice none 0 0)
   have kb := Lib.hid (below_set7 hbw.out hg6.out (.slice none 0 0) (.int .i64 0) (.int .i64 0) (.slice none 0 0) (.int .i64 0) (.int .i64 0) (.slice none 0 0))
   clear y0 y1 y2 y3 y4 y5 y6 f0 f1 f2 f3 f4 f5 f6 x6
   generalize ((((((W2.setCell ⟨g6, 0, none⟩ (.slice none 0 0)).setCell ⟨g6, 1, none⟩ (.int .i64 0)).setCell ⟨g6, 2, none⟩ (.int .i64 0)).setCell ⟨g6, 3, none⟩ (.slice none 0 0)).setCell ⟨g6, 4, none⟩ (.int .i64 0)).setCell ⟨g6, 5, none⟩ (.int .i64 0)).setCell ⟨g6, 6, none⟩ (.slice none 0 0) = W9 at *
   obtain ⟨z0, z1, z2, z3, z4, z5, z6⟩ := box7_cells k
   try simp only [Exit.inBlock, Exit.then]
   refine bodyPost_ret (v := .tuple #[.agg #[.slice none 0 0, .int .i64 0, .int .i64 0, .slice none 0 0, .int .i64 0, .int .i64 0, .slice none 0 0], .slice none 0 0, .int .i64 rc]) (by simp [results, Tryz.results50, go_sem, z0, z1, z2, z3, z4, z5, z6]) rfl ?_
   exact dans_bad hr.out kb.out
 subst E2
 rw [if_pos rfl] at hD
 obtain ⟨hy1, hy2, hyl⟩ := hal9.out rfl
 replace hyl := Lib.hid hyl
 have hwn := Lib.hid (fun W => dwindow_any A2 P.length c2 A3 S.length c3 f t W)
 have hin := Lib.hid (fun W => inside_any lo hi f t W)
 have K : Hid (∀ W, Below W2.heap.size W2 W → W.cell? ⟨g3, 3, none⟩ = some (.slice A2 P.length c2) ∧ W.cell? ⟨g3, 4, none⟩ = some (.int .i64 f) ∧ W.cell? ⟨g3, 5, none⟩ = some (.int .i64 t) ∧ W.cell? ⟨g3, 6, none⟩ = some (.slice A3 S.length c3) ∧ W.cell? ⟨g5, 0, none⟩ = some (.int .i64 lo) ∧ W.cell? ⟨g5, 1, none⟩ = some (.int .i64 hi)) := fun W hW => ⟨(x3.below hW).cell 3, (x3.below hW).cell 4, (x3.below hW).cell 5, (x3.below hW).cell 6, (x5.below hW).cell 0, (x5.below hW).cell 1⟩
 obtain ⟨k0, k1, k2, k3, k4, k5⟩ := K.out W2 (Below.refl _ _)
 generalize hI : inS lo hi f t = I at *
 replace hI := Lib.hid hI
 replace x5 := Lib.hid x5
 go_wp2_with fail
 go_cut [41] (fun v W => v = .bool (!I) ∧ Hid (Below W2.heap.size W2 W))
 case first =>
  clear x3 x5 x6 x11
  go_region_held3 (fun W' : World => W'.cell? ⟨g3, 3, none⟩ = some (.slice A2 P.length c2) ∧ W'.cell? ⟨g3, 4, none⟩ = some (.int .i64 f) ∧ W'.cell? ⟨g3, 5, none⟩ = some (.int .i64 t) ∧ W'.cell? ⟨g3, 6, none⟩ = some (.slice A3 S.length c3) ∧ W'.cell? ⟨g5, 0, none⟩ = some (.int .i64 lo) ∧ W'.cell? ⟨g5, 1, none⟩ = some (.int .i64 hi))
   (first | (with_reducible exact K.out _ hb9) | (with_reducible exact K.out _ hb8) | exact K.out _ (by (repeat (first | exact Below.refl _ _ | (refine bgo ?_ (balloc _ _)) | (refine bgo ?_ (bdrew _)) | (refine bgo ?_ (by assumption))))) | (go_keep; done))
   (first
    | (go_at_call 104; (with_reducible refine (hin.out w8).mono ?_); rintro e w9 ⟨rfl, hb9⟩
       replace hb9 := bgo hb8 hb9)
    | (go_at_call 105; (with_reducible refine (hwn.out W2.drew).mono ?_); rintro e w8 ⟨rfl, hb8⟩
       replace hb8 := bgo (bdrew W2) hb8)
    | (go_at_call 105; (with_reducible refine (hwn.out W2).mono ?_); rintro e w8 ⟨rfl, hb8⟩))
  all_goals
   go_wp2_with fail
   go_meet
   exact ⟨rfl, hb9⟩
 case rest =>
 obtain ⟨rfl, hb9⟩ := hcut
 obtain ⟨w4, rfl⟩ : ∃ w4 : World, w4 = wc := ⟨_, rfl⟩
 replace x6 := x6.below hb9.out
 replace x11 := x11.below hb9.out
 replace sc := Lib.hid (seesB_of sc.out (Nat.le_refl _) hb9.out)
 replace o12 := Lib.hid (o12.out.below hb9.out)
 replace el := Lib.hid (el.out.below hb9.out)
 replace hb12 := Lib.hid (bgo hb12.out hb9.out)
 replace hbw := Lib.hid (bgo hbw.out hb9.out)
 have hg11 : Hid (w2.heap.size ≤ g11) := by show _ ≤ _; rw [hG11.out]; exact Nat.le_refl _
 have h4g : Hid (g11 < w4.heap.size) := x11.lt
 clear k0 k1 k2 k3 k4 k5 K hwn hin x3 x5 sn su
 cases I with
 | false =>
   have hr : Hid (dansR sd h n P f t S ns lo hi = (noGrant, [], 25)) := by show _ = _; rw [hD.out]; rfl
   clear x11
   obtain ⟨y0, y1, y2, y3, y4, y5, y6⟩ := box7_cells x6
   obtain ⟨f0, f1, f2, f3, f4, f5, f6⟩ := box7_soft x6
   go_wp2_with fail
   have k := box_set7 x6 (.slice none 0 0) (.int .i64 0) (.int .i64 0) (.slice none 0 0) (.int .i64 0) (.int .i64 0) (.slice none 0 0)
   have kb := Lib.hid (below_set7 hbw.out hg6.out (.slice none 0 0) (.int .i64 0) (.int .i64 0) (.slice none 0 0) (.int .i64 0) (.int .i64 0) (.slice none 0 0))
   clear y0 y1 y2 y3 y4 y5 y6 f0 f1 f2 f3 f4 f5 f6 x6
   generalize ((((((w4.setCell ⟨g6, 0, none⟩ (.slice none 0 0)).setCell ⟨g6, 1, none⟩ (.int .i64 0)).setCell ⟨g6, 2, none⟩ (.int .i64 0)).setCell ⟨g6, 3, none⟩ (.slice none 0 0)).setCell ⟨g6, 4, none⟩ (.int .i64 0)).setCell ⟨g6, 5, none⟩ (.int .i64 0)).setCell ⟨g6, 6, none⟩ (.slice none 0 0) = W9 at *
   obtain ⟨z0, z1, z2, z3, z4, z5, z6⟩ := box7_cells k
   try simp only [Exit.inBlock, Exit.then]
   refine bodyPost_ret (v := .tuple #[.agg #[.slice none 0 0, .int .i64 0, .int .i64 0, .slice none 0 0, .int .i64 0, .int .i64 0, .slice none 0 0], .slice none 0 0, .int .i64 25]) (by simp [results, Tryz.results50, go_sem, z0, z1, z2, z3, z4, z5, z6]) rfl ?_
   exact dans_bad hr.out kb.out
 | true =>
 replace hD : Hid (dansR sd h n P f t S ns lo hi = if wrapOk C ys = true then (((rs, rh, rn), (P, f, t, S)), ys.map (wrapB C), 0) else (noGrant, [], 2)) := by show _ = _; rw [hD.out, if_pos rfl]
 obtain ⟨gA, rfl⟩ := o12.out.at_ (by omega)
 have hgA := hlt2.out gA rfl
 have hn11 : gA ≠ g11 := by have := hG11.out; omega
 have hsz4 : Hid (w2.heap.size ≤ w4.heap.size) := by show _ ≤ _; have := hG11.out; have := h4g.out; omega
 have hnm := Lib.hid (dnames_eq w4)
 have xN := Box.new (w4.alloc (.cells #[.string ⟨#[75, 69, 89, 83]⟩, .string ⟨#[83, 73, 71, 78]⟩, .string ⟨#[83, 80, 65, 78]⟩] 9)) 9 [.string ⟨#[65, 78, 83, 87]⟩, .string ⟨#[67, 69, 82, 84]⟩]
 rw [World.size_alloc] at xN
 change Box ((w4.alloc (.cells #[.string ⟨#[75, 69, 89, 83]⟩, .string ⟨#[83, 73, 71, 78]⟩, .string ⟨#[83, 80, 65, 78]⟩] 9)).alloc (.cells #[.string ⟨#[65, 78, 83, 87]⟩, .string ⟨#[67, 69, 82, 84]⟩] 9)) _ _ _ at xN
 have hbN := bgo (balloc w4 (.cells #[.string ⟨#[75, 69, 89, 83]⟩, .string ⟨#[83, 73, 71, 78]⟩, .string ⟨#[83, 80, 65, 78]⟩] 9)) (balloc _ (.cells #[.string ⟨#[65, 78, 83, 87]⟩, .string ⟨#[67, 69, 82, 84]⟩] 9))
 replace x6 := x6.below hbN
 replace x11 := x11.below hbN
 replace o12 := Lib.hid (o12.out.below hbN)
 replace el := Lib.hid (el.out.below hbN)
 replace hb12 := Lib.hid (bgo hb12.out hbN)
 replace hbw := Lib.hid (bgo hbw.out hbN)
 have hnN : gA ≠ w4.heap.size + 1 := by have := h4g.out; omega
 replace hgA := Lib.hid hgA
 replace hn11 := Lib.hid hn11
 replace hnN := Lib.hid hnN
 have hlt : (0 : Int) < (ys.length : Int) := by omega
 go_wp2_with fail
 refine hnm.out.mono ?_
 rintro e w5 ⟨rfl, hw5⟩
 subst hw5
 dsimp only
 go_upto_region 10 with (fail)
 generalize (w4.alloc (.cells #[.string ⟨#[75, 69, 89, 83]⟩, .string ⟨#[83, 73, 71, 78]⟩, .string ⟨#[83, 80, 65, 78]⟩] 9)).alloc (.cells #[.string ⟨#[65, 78, 83, 87]⟩, .string ⟨#[67, 69, 82, 84]⟩] 9) = W5 at *
 generalize w4.heap.size + 1 = gN at *
 clear hnm hbN
 replace x6 := Lib.hid x6
 replace x11 := Lib.hid x11
 replace xN := Lib.hid xN
 go_wp2_with fail
 go_loopw [55] (fun tt wr => ∃ k : Nat, k ≤ ys.length ∧ tt = .int .i64 k ∧ Hid (OwnL wr w1.heap.size (.slice (some ⟨gA, 0, none⟩) ys.length c12) (mixL C ys k)) ∧ Hid (Below w1.heap.size w1 wr) ∧ Hid (Box wr g11 43 [.slice A7 rs.length c7, .int .i64 rh, .int .i64 rn]) ∧ Hid (Box wr gN 9 [.string ⟨#[65, 78, 83, 87]⟩, .string ⟨#[67, 69, 82, 84]⟩]) ∧ Hid (Elt wr (.slice (some ⟨gA, 0, none⟩) ys.length c12) (.slice A7 rs.length c7) rs) ∧ Hid (wrapOk C (ys.take k) = true)) (fun tt _ => ys.length - (intOf tt).toNat)
 case atStart => exact ⟨0, by omega, rfl, by rw [mixL_zero]; exact o12.out, hb12.out, x11.out, xN.out, el.out, rfl⟩
 case round =>
  obtain ⟨k, hk, rfl, ho, hb, hx11, hxN, hel, hok⟩ := hrel
  by_cases hlt9 : k < ys.length
  · have i0 : (k : Int) < (ys.length : Int) := by omega
    have hml := mixL_len C ys k hk
    obtain ⟨b6, o6, e6, hb6, hcell⟩ := ho.out.sees.at_ (by rw [hml]; omega)
    obtain ⟨A', c', y1, -, -, sy⟩ := hcell k (by rw [hml]; exact hlt9)
    injection e6 with e6
    injection e6 with e61 e62
    subst e61
    subst e62
    rw [Nat.zero_add] at y1
    rw [mixL_get C ys k hlt9] at y1 sy
    have hdk : ys[k]? = some (ys.getD k []) := by rw [List.getD_eq_getElem?_getD, List.getElem?_eq_getElem hlt9]; rfl
    have hmem : ys.getD k [] ∈ ys := List.mem_of_getElem? hdk
    have hal := (hyl.out _ hmem).1
    have hst := Lib.hid (mixL_step C ys k _ hdk)
    have hws := Lib.hid (wrapOk_step C ys k _ hdk)
    generalize ys.getD k [] = a at *
    obtain ⟨⟨zc, hzc⟩, hzf⟩ := ho.out.cell (k := k) (by rw [hml]; exact hlt9)
    have sa := seesB_of sy (Nat.le_refl _) (Below.refl _ _)
    have sC := seesB_of sc1.out (Nat.le_refl _) hb.out
    have hnA := namesA_box hxN.out
    have hla := balloc wr (.cells #[.slice A' a.length c', .slice A9 C.length c9] 34)
    have hL := seesL_lit wr 34 (vs := [.slice A' a.length c', .slice A9 C.length c9]) (ls := [a, C]) ⟨sa, sC, trivial⟩ (by simp [maxLen])
    have hms := message_any _ _ _ namesA [a, C] _ ((hnA.below hla).more hla.size) hL (Nat.le_refl _) rfl (by simp [namesA]) (by
     have h1 := hcl.out
     simp only [namesA, List.zip_cons_cons, List.zip_nil_right, dataT, List.map_cons, List.map_nil, List.flatten_cons, List.flatten_nil, List.length_append, List.length_nil]
     omega)
    rw [wrap_zip] at hms
    unfold EncP at hms
    have hwb : Hid (wrapB C a = encT (wrapT a C)) := rfl
    have hj0 : (0 : Int) ≤ (k : Int) := by omega
    replace hms := Lib.hid hms
    replace hmem := Lib.hid hmem
    replace hdk := Lib.hid hdk
    replace hml := Lib.hid hml
    clear hL sa sC hnA sy hcell hzc hzf
    go_wp2_with fail
    refine hms.out.mono ?_
    rintro e w7 ⟨v8, rfl, o8, hb7⟩
    generalize encT (wrapT a C) = AB at *
    obtain ⟨A8, c8, rfl, -, -⟩ := o8.sees.mk_
    have hb8 := bgo hla hb7
    have ho8 := ho.out.below hb8
    obtain ⟨⟨zc, hzc⟩, hzf⟩ := ho8.cell (k := k) (by rw [hml.out]; exact hlt9)
    have hel8 := Elt.of_from (v := .slice (some ⟨gA, 0, none⟩) ys.length c12) o8.sees o8.from (fun q hq => by cases hq; exact ((ho.out.below hla).lt gA rfl).2)
    obtain ⟨hos, hbs⟩ := ho8.set (k := k) (by rw [hml.out]; exact hlt9) hel8
    have hgr := setCell_grown w7 gA k (.slice A8 AB.length c8)
    have hx11' := Lib.hid ((hx11.out.below hb8).other (j := k) (v := .slice A8 AB.length c8) hn11.out.symm)
    have hxN' := Lib.hid ((hxN.out.below hb8).other (j := k) (v := .slice A8 AB.length c8) hnN.out.symm)
    have hel' : Hid (Elt (w7.setCell ⟨gA, k, none⟩ (.slice A8 AB.length c8)) (.slice (some ⟨gA, 0, none⟩) ys.length c12) (.slice A7 rs.length c7) rs) := ⟨(hel.out.below hb8).grown hgr, hel.out.2⟩
    have hbk := Lib.hid ((hb.out.trans (hb8.mono hb.out.size)).trans hbs)
    replace hos : Hid (OwnL (w7.setCell ⟨gA, k, none⟩ (.slice A8 AB.length c8)) w1.heap.size (.slice (some ⟨gA, 0, none⟩) ys.length c12) (mixL C ys (k + 1))) := by
     show OwnL _ _ _ _
     rw [← hst.out, hwb.out]
     exact hos
    have hwC := hws.out
    clear hms hla hb7 hb8 ho8 hel8 hbs hgr o8 y1
    dsimp only
    by_cases E8 : encC (wrapT a C) = 0
    · have hok' : Hid (wrapOk C (ys.take (k + 1)) = true) := by show _ = _; rw [hwC, hok.out, E8]; rfl
      rw [E8]
      replace E8 := Lib.hid E8
      replace hwC := Lib.hid hwC
      go_wp2_with fail
      go_roundw
      case rel => first | exact ⟨k + 1, by omega, by go_num, hos, hbk, hx11', hxN', hel', hok'⟩ | ((repeat apply Exists.intro); exact ⟨⟨k + 1, by omega, by go_num, hos, hbk, hx11', hxN', hel', hok'⟩, rfl⟩)
      case measure => simp [intOf]; omega
    · have hr : Hid (dansR sd h n P f t S ns lo hi = (noGrant, [], 2)) := by show _ = _; rw [hD.out, wrapOk_false hmem.out E8]; rfl
      have hE : (encC (wrapT a C) == 0) = false := by simp [E8]
      generalize encC (wrapT a C) = E at *
      replace E8 := Lib.hid E8
      replace hwC := Lib.hid hwC
      have x6 := below_boxB hbk.out x61.out z6.out
      replace hbw := Lib.hid (hw1w.out.trans (hbk.out.mono hw1w.out.size))
      go_upto_region 15 with (fail)
      clear hzc hzf
      generalize w7.setCell ⟨gA, k, none⟩ (.slice A8 AB.length c8) = W7 at *
      obtain ⟨y0, y1, y2, y3, y4, y5, y6⟩ := box7_cells x6
      obtain ⟨f0, f1, f2, f3, f4, f5, f6⟩ := box7_soft x6
      go_wp2_with fail
      have k := box_set7 x6 (.slice none 0 0) (.int .i64 0) (.int .i64 0) (.slice none 0 0) (.int .i64 0) (.int .i64 0) (.slice none 0 0)
      have kb := Lib.hid (below_set7 hbw.out hg6.out (.slice none 0 0) (.int .i64 0) (.int .i64 0) (.slice none 0 0) (.int .i64 0) (.int .i64 0) (.slice none 0 0))
      clear y0 y1 y2 y3 y4 y5 y6 f0 f1 f2 f3 f4 f5 f6 x6
      generalize ((((((W7.setCell ⟨g6, 0, none⟩ (.slice none 0 0)).setCell ⟨g6, 1, none⟩ (.int .i64 0)).setCell ⟨g6, 2, none⟩ (.int .i64 0)).setCell ⟨g6, 3, none⟩ (.slice none 0 0)).setCell ⟨g6, 4, none⟩ (.int .i64 0)).setCell ⟨g6, 5, none⟩ (.int .i64 0)).setCell ⟨g6, 6, none⟩ (.slice none 0 0) = W9 at *
      obtain ⟨z0, z1, z2, z3, z4, z5, z6⟩ := box7_cells k
      try simp only [Exit.inBlock, Exit.then]
      refine bodyPost_ret (v := .tuple #[.agg #[.slice none 0 0, .int .i64 0, .int .i64 0, .slice none 0 0, .int .i64 0, .int .i64 0, .slice none 0 0], .slice none 0 0, .int .i64 2]) (by simp [results, Tryz.results50, go_sem, z0, z1, z2, z3, z4, z5, z6]) rfl ?_
      exact dans_bad hr.out kb.out
  · obtain rfl : k = ys.length := by omega
    have i0 : ¬ (ys.length : Int) < (ys.length : Int) := by omega
    rw [List.take_of_length_le (Nat.le_refl _)] at hok
    have hr : Hid (dansR sd h n P f t S ns lo hi = (((rs, rh, rn), (P, f, t, S)), ys.map (wrapB C), 0)) := by show _ = _; rw [hD.out, if_pos hok.out]
    rw [mixL_all] at ho
    have x6 := below_boxB hb.out x61.out z6.out
    have x3 := below_boxB hb.out x31.out z3.out
    replace hbw := Lib.hid (hw1w.out.trans (hb.out.mono hw1w.out.size))
    have kg := Lib.hid (kgranted2_any _ A sd.length c A7 rs.length c7 _ _ h n rh rn P S f t wr (seesB_of sP1.out (Nat.le_refl _) hb.out) (seesB_of sS1.out (Nat.le_refl _) hb.out) (Nat.le_refl _) (by have := hP9.out; omega) (by have := hS9.out; omega))
    obtain ⟨q0, q1, q2, q3, q4, q5, q6⟩ := box7_cells x3
    obtain ⟨e0, e1, e2, -, -, -⟩ := box3_cells hx11.out
    go_wp2_with fail
    refine kg.out.mono ?_
    rintro e w9 ⟨v2', v3', rfl, m2, m3, hb9'⟩
    obtain ⟨B2, d2, rfl, -, -⟩ := m2.mk_
    obtain ⟨B3, d3, rfl, -, -⟩ := m3.mk_
    replace x6 := x6.below hb9'
    replace hbw := Lib.hid (bgo hbw.out hb9')
    have m1 := (hel.out.below hb9').1
    have m4 := ho.out.below hb9'
    clear q0 q1 q2 q3 q4 q5 q6 e0 e1 e2 kg x3
    obtain ⟨y0, y1, y2, y3, y4, y5, y6⟩ := box7_cells x6
    obtain ⟨f0, f1, f2, f3, f4, f5, f6⟩ := box7_soft x6
    dsimp only
    go_wp2_with fail
    have k := box_set7 x6 (.slice A7 rs.length c7) (.int .i64 rh) (.int .i64 rn) (.slice B2 P.length d2) (.int .i64 f) (.int .i64 t) (.slice B3 S.length d3)
    have k1 := Lib.hid (sees_set7 x6 noZ7 (.slice A7 rs.length c7) (.int .i64 rh) (.int .i64 rn) (.slice B2 P.length d2) (.int .i64 f) (.int .i64 t) (.slice B3 S.length d3) m1)
    have k2 := Lib.hid (sees_set7 x6 noZ7 (.slice A7 rs.length c7) (.int .i64 rh) (.int .i64 rn) (.slice B2 P.length d2) (.int .i64 f) (.int .i64 t) (.slice B3 S.length d3) m2)
    have k3 := Lib.hid (sees_set7 x6 noZ7 (.slice A7 rs.length c7) (.int .i64 rh) (.int .i64 rn) (.slice B2 P.length d2) (.int .i64 f) (.int .i64 t) (.slice B3 S.length d3) m3)
    have k4 := Lib.hid (SeesL.set7 x6 noZ7 (Nat.le_refl _) (fun q hq => by cases hq; show gA ≠ g6; have := (m4.lt gA rfl).1; have := z6.out; omega) (.slice A7 rs.length c7) (.int .i64 rh) (.int .i64 rn) (.slice B2 P.length d2) (.int .i64 f) (.int .i64 t) (.slice B3 S.length d3) m4.sees)
    have kb := Lib.hid (below_set7 hbw.out hg6.out (.slice A7 rs.length c7) (.int .i64 rh) (.int .i64 rn) (.slice B2 P.length d2) (.int .i64 f) (.int .i64 t) (.slice B3 S.length d3))
    have hzs : Hid ((((((((w9.setCell ⟨g6, 0, none⟩ (.slice A7 rs.length c7)).setCell ⟨g6, 1, none⟩ (.int .i64 rh)).setCell ⟨g6, 2, none⟩ (.int .i64 rn)).setCell ⟨g6, 3, none⟩ (.slice B2 P.length d2)).setCell ⟨g6, 4, none⟩ (.int .i64 f)).setCell ⟨g6, 5, none⟩ (.int .i64 t)).setCell ⟨g6, 6, none⟩ (.slice B3 S.length d3)).heap.size = w9.heap.size) := by show _ = _; simp [World.setCell]
    clear y0 y1 y2 y3 y4 y5 y6 f0 f1 f2 f3 f4 f5 f6 x6
    generalize ((((((w9.setCell ⟨g6, 0, none⟩ (.slice A7 rs.length c7)).setCell ⟨g6, 1, none⟩ (.int .i64 rh)).setCell ⟨g6, 2, none⟩ (.int .i64 rn)).setCell ⟨g6, 3, none⟩ (.slice B2 P.length d2)).setCell ⟨g6, 4, none⟩ (.int .i64 f)).setCell ⟨g6, 5, none⟩ (.int .i64 t)).setCell ⟨g6, 6, none⟩ (.slice B3 S.length d3) = W9 at *
    obtain ⟨z0, z1, z2, z3', z4, z5, z6'⟩ := box7_cells k
    refine bodyPost_ret (v := .tuple #[.agg #[.slice A7 rs.length c7, .int .i64 rh, .int .i64 rn, .slice B2 P.length d2, .int .i64 f, .int .i64 t, .slice B3 S.length d3], .slice (some ⟨gA, 0, none⟩) ys.length c12, .int .i64 0]) (by simp [results, Tryz.results50, go_sem, z0, z1, z2, z3', z4, z5, z6']) rfl ?_
    exact dans_ok hr.out k1.out k2.out k3.out (by rw [hzs.out]; exact k4.out) kb.out
end Go.Proofs.YtgehkgjllhkhoaaGreat

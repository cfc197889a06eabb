/- What a law leans on beyond the base: contracts, plain functions, walks. Conditions: those of each theorem. -/
import Derived.Test.YtjgepckncogdaaaGreatZC2
set_option linter.unusedVariables false
set_option linter.unusedSimpArgs false
namespace Go.Proofs.YtjgepckncogdaaaGreat
open Go Go.RowKit
set_option linter.unusedVariables false
attribute [local go_sem ↓] Go.wp_at_zero Go.wp_at_succ
theorem chk1_any (A : Option Addr) (n c : Nat) (w : World) : Calls Tryz.prog 136 #[.slice A n c] w fun e w' => e = .returned (.bool (!decide ((n : Int) = 32))) ∧ w' = w := by
 go_enter Tryz.func136, Tryz.ntmps136
 go_wp2_with fail
 go_ret
 exact ⟨by by_cases h : (n : Int) = 32 <;> simp [h], rfl⟩
set_option maxRecDepth 100000 in
theorem idx_any (B : Nat) (u : Value) (ls : List Bs) (w : World) (hu : SeesL w B u ls) (hB : B ≤ w.heap.size) (hn : ls.length ≤ 1048576) :
 Calls Tryz.prog 166 #[u, .func (.func 136) #[] #[]] w fun e w' => (∃ i : Int, e = .returned (.int .i64 i) ∧ decide (0 ≤ i) = !(all32 ls)) ∧ Below w.heap.size w w' := by
 obtain ⟨A, c, rfl, -, -⟩ := hu.mk_
 replace hu := Lib.hid hu
 go_enter Tryz.func166, Tryz.ntmps166
 go_wp2_with fail
 go_loopw [8] (fun t wr => ∃ k : Nat, k ≤ ls.length ∧ t = .int .i64 k ∧ Hid (all32 (ls.take k) = true) ∧ Hid (Below w.heap.size w wr)) (fun t _ => ls.length - (intOf t).toNat)
 case atStart => exact ⟨0, by omega, rfl, rfl, Below.refl _ _⟩
 case round =>
  obtain ⟨k, hk, rfl, ha, hb⟩ := hrel
  by_cases hlt : k < ls.length
  · obtain ⟨b, o, rfl, hbB, hds⟩ := (hu.out.below (hb.out.mono hB)).at_ (by omega)
    obtain ⟨A', c', y1, -, -, sd⟩ := hds k hlt
    have hdk : ls[k]? = some (ls.getD k []) := by rw [List.getD_eq_getElem?_getD, List.getElem?_eq_getElem hlt]; rfl
    have hst := Lib.hid (all32_take ls k _ hdk)
    generalize hda : ls.getD k [] = da at *
    have i0 : (k : Int) < (ls.length : Int) := by omega
    have hmem : Hid (da ∈ ls) := by show _ ∈ _; exact List.mem_of_getElem? hdk
    have hc1 := Lib.hid (fun W => chk1_any A' da.length c' W)
    replace hda := Lib.hid hda
    replace hdk := Lib.hid hdk
    clear hds sd
    go_wp2_with fail
    refine (hc1.out wr).mono ?_
    rintro e w1 ⟨rfl, hw⟩
    obtain rfl := hw.symm
    dsimp only
    by_cases h32 : da.length = 32
    · have hd : (!decide ((da.length : Int) = 32)) = false := by simp; omega
      rw [hd]
      have hst2 : Hid (all32 (ls.take (k + 1)) = true) := by show _ = _; rw [hst.out, ha.out]; simp [h32]
      clear hd
      replace h32 := Lib.hid h32
      go_wp2_with fail
      go_roundw
      case rel => exact ⟨k + 1, by omega, by go_num, hst2, hb⟩
      case measure => simp [intOf]; omega
    · have hd : (!decide ((da.length : Int) = 32)) = true := by simp; omega
      rw [hd]
      have hno : Hid (all32 ls = false) := by
       show _ = _
       cases h : all32 ls with
       | false => rfl
       | true => exact absurd (all32_each h da hmem.out) h32
      clear hd
      replace h32 := Lib.hid h32
      go_wp2_with fail
      go_returns
      exact ⟨⟨_, rfl, by rw [hno.out]; simp⟩, hb.out⟩
  · have i0 : ¬ (k : Int) < (ls.length : Int) := by omega
    rw [List.take_of_length_le (by omega)] at ha
    go_wp2_with fail
    go_returns
    exact ⟨⟨_, rfl, by rw [ha.out]; rfl⟩, hb.out⟩
theorem cont_any (B : Nat) (u : Value) (ls : List Bs) (w : World) (hu : SeesL w B u ls) (hB : B ≤ w.heap.size) (hn : ls.length ≤ 1048576) :
 Calls Tryz.prog 86 #[u, .func (.func 136) #[] #[]] w (BoolPost (!(all32 ls)) w) := by
 have hi := Lib.hid (idx_any B u ls w hu hB hn)
 obtain ⟨A, c, rfl, -, -⟩ := hu.mk_
 clear hu
 go_enter Tryz.func86, Tryz.ntmps86
 go_wp2_with fail
 refine hi.out.mono ?_
 rintro e w1 ⟨⟨i, rfl, hd⟩, hb⟩
 replace hd := Lib.hid hd
 dsimp only
 go_wp2_with fail
 go_ret
 exact ⟨by rw [← hd.out]; rfl, hb⟩
set_option maxRecDepth 100000 in
theorem bcheck_any (B : Nat) (u u2 : Value) (sd : Bs) (h n : Int) (ns : List Bs) (lo hi : Int) (w : World) (hu : SeesB w B u sd) (hu2 : SeesL w B u2 ns) (hB : B ≤ w.heap.size) :
 Calls Tryz.prog 67 #[.agg #[u, .int .i64 h, .int .i64 n], u2, .agg #[.int .i64 lo, .int .i64 hi]] w fun e w' => e = .returned (.int .i64 (bchkC sd h n ns lo hi)) ∧ Below w.heap.size w w' := by
 obtain ⟨A, c, rfl, -, -⟩ := hu.mk_
 obtain ⟨A2, c2, rfl, -, -⟩ := hu2.mk_
 have hC : Hid (∀ x : Int, bchkC sd h n ns lo hi = x → bchkC sd h n ns lo hi = x) := fun _ h => h
 have hal := bgo (balloc w (.cells #[.slice A sd.length c, .int .i64 h, .int .i64 n] 27)) (balloc _ (.cells #[.int .i64 lo, .int .i64 hi] 24))
 have hva := Lib.hid (svalid_any _ (.slice A sd.length c) sd h n _ (seesB_of hu hB hal))
 have hls := Lib.hid (fun W (hW : Below w.heap.size w W) (hn : ns.length ≤ 1048576) => cont_any B _ ns W (hu2.below (hW.mono hB)) (Nat.le_trans hB hW.size) hn)
 have hvs := Lib.hid (fun W => valid_any lo hi W)
 have x3 := (Box.new w 27 [.slice A sd.length c, .int .i64 h, .int .i64 n]).below (balloc _ (.cells #[.int .i64 lo, .int .i64 hi] 24))
 have x5 := Box.new (w.alloc (.cells #[.slice A sd.length c, .int .i64 h, .int .i64 n] 27)) 24 [.int .i64 lo, .int .i64 hi]
 rw [World.size_alloc] at x5
 have c0 := x3.cell 0
 have c1 := x3.cell 1
 have c2' := x3.cell 2
 simp only [List.getElem?_cons_zero, List.getElem?_cons_succ] at c0 c1 c2'
 have x5' := Lib.hid x5
 replace hal := Lib.hid hal
 clear hu hu2 x3 x5
 go_enter Tryz.func67, Tryz.ntmps67
 go_upto_region 1 with (fail)
 generalize (w.alloc (.cells #[.slice A sd.length c, .int .i64 h, .int .i64 n] 27)).alloc (.cells #[.int .i64 lo, .int .i64 hi] 24) = W at *
 generalize w.heap.size + 1 = g5 at *
 go_wp2_with fail
 refine hva.out.mono ?_
 rintro e w1 ⟨rfl, hb1⟩
 have hbw := Lib.hid (bgo hal.out hb1)
 have x5 := x5'.out.below hb1
 clear c0 c1 c2' hva x5'
 dsimp only
 cases hV : validI sd h n with
 | false =>
   have hr : Hid (bchkC sd h n ns lo hi = 3) := by show _ = _; rw [bchkC, hV]; rfl
   clear x5
   go_wp2_with fail
   go_returns
   exact ⟨by rw [hr.out]; rfl, hbw.out⟩
 | true =>
   by_cases h8 : ns.length < 1 ∨ 16 < ns.length
   · have hr : Hid (bchkC sd h n ns lo hi = 8) := by show _ = _; rw [bchkC, if_pos hV, if_pos h8]
     clear x5
     rcases h8 with h8 | h8
     · have i0 : (ns.length : Int) < 1 := by omega
       go_wp2_with fail
       go_returns
       exact ⟨by rw [hr.out]; rfl, hbw.out⟩
     · have i0 : ¬ (ns.length : Int) < 1 := by omega
       have i1 : (16 : Int) < (ns.length : Int) := by omega
       go_wp2_with fail
       go_returns
       exact ⟨by rw [hr.out]; rfl, hbw.out⟩
   · have i0 : ¬ (ns.length : Int) < 1 := by omega
     have i1 : ¬ (16 : Int) < (ns.length : Int) := by omega
     have hr : Hid (bchkC sd h n ns lo hi = if (vS lo hi && all32 ns) = true then 0 else 3) := by show _ = _; rw [bchkC, if_pos hV, if_neg h8]
     have y0 := x5.cell 0
     have y1 := x5.cell 1
     simp only [List.getElem?_cons_zero, List.getElem?_cons_succ] at y0 y1
     replace h8 := Lib.hid h8
     replace hV := Lib.hid hV
     clear x5
     go_wp2_with fail
     refine (hvs.out _).mono ?_
     rintro e w2 ⟨rfl, hb2⟩
     replace hbw := Lib.hid (bgo hbw.out hb2)
     clear y0 y1
     dsimp only
     cases hv : vS lo hi with
     | false =>
       rw [hv] at hr
       replace hv := Lib.hid hv
       go_wp2_with fail
       go_returns
       exact ⟨by rw [hr.out]; rfl, hbw.out⟩
     | true =>
       rw [hv] at hr
       replace hv := Lib.hid hv
       have hcn := Lib.hid (hls.out w2 hbw.out (by have := h8.out; omega))
       go_wp2_with fail
       refine hcn.out.mono ?_
       rintro e w3 ⟨rfl, hb3⟩
       replace hbw := Lib.hid (bgo hbw.out hb3)
       dsimp only
       cases ha : all32 ns with
       | false =>
         rw [ha] at hr
         go_wp2_with fail
         go_returns
         exact ⟨by rw [hr.out]; rfl, hbw.out⟩
       | true =>
         rw [ha] at hr
         go_wp2_with fail
         go_returns
         exact ⟨by rw [hr.out]; rfl, hbw.out⟩
theorem names2_litR (w : World) : SeesR (w.alloc (.cells #[.string ⟨#[82, 79, 79, 84]⟩, .string ⟨#[83, 80, 65, 78]⟩] 9)) (w.heap.size + 1) (.slice (some ⟨w.heap.size, 0, none⟩) 2 2) 1 2 (nameS names2) := names2_lit w
set_option maxRecDepth 100000 in
set_option maxHeartbeats 2000000 in
theorem bsigned_any (B : Nat) (u : Value) (ns : List Bs) (lo hi : Int) (w : World) (hu : SeesL w B u ns) (hB : B ≤ w.heap.size) (hv : vS lo hi = true) (hn : ns.length ≤ 16) (hl : ∀ l ∈ ns, l.length = 32) :
 Calls Tryz.prog 68 #[u, .agg #[.int .i64 lo, .int .i64 hi]] w (Gives (partG ns lo hi) w) := by
 obtain ⟨A, c, rfl, -, -⟩ := hu.mk_
 have hal := balloc w (.cells #[.int .i64 lo, .int .i64 hi] 24)
 have x3 := Box.new w 24 [.int .i64 lo, .int .i64 hi]
 change Box (w.alloc (.cells #[.int .i64 lo, .int .i64 hi] 24)) _ _ _ at x3
 have hrt := Lib.hid (root_top ns B _ _ (hu.below (hal.mono hB)) (Nat.le_trans hB hal.size) (by omega) (fun l h => by rw [hl l h]; omega))
 have hsp := Lib.hid (fun W => span_any lo hi W)
 have hR : Hid ((rootG (ns.map leafH)).length = 32) := rootG_len _ (leafs_len ns)
 have hS := Lib.hid (pb16 lo hi)
 have hsl : spanL lo hi = spanB lo hi := by rw [spanL, if_pos hv]
 replace hal := Lib.hid hal
 replace hv := Lib.hid hv
 clear hu hl
 go_enter Tryz.func68, Tryz.ntmps68
 go_upto_region 1 with (fail)
 generalize w.alloc (.cells #[.int .i64 lo, .int .i64 hi] 24) = W at *
 generalize hgg : w.heap.size = g3 at x3 ⊢
 replace hgg := Lib.hid hgg
 go_wp2_with fail
 refine hrt.out.mono ?_
 rintro e w1 ⟨v1, rfl, o1, hb1⟩
 obtain ⟨A1, c1, rfl, -, -⟩ := o1.sees.mk_
 replace x3 := x3.below hb1
 have hbw := Lib.hid (bgo hal.out hb1)
 have y0 := x3.cell 0
 have y1 := x3.cell 1
 simp only [List.getElem?_cons_zero, List.getElem?_cons_succ] at y0 y1
 clear hrt hb1
 dsimp only
 go_wp2_with fail
 refine (hsp.out _).mono ?_
 rintro e w2 ⟨v2, rfl, o2, hb2⟩
 rw [hsl] at o2
 obtain ⟨A2, c2, rfl, -, -⟩ := o2.sees.mk_
 have s1 := seesB_of o1.sees (Nat.le_refl _) hb2
 have s2 := o2.sees
 replace hbw := Lib.hid (bgo hbw.out hb2)
 have hn2 := names2_litR w2
 have hal2 := balloc w2 (.cells #[.string ⟨#[82, 79, 79, 84]⟩, .string ⟨#[83, 80, 65, 78]⟩] 9)
 replace s1 := seesB_of s1 (Nat.le_refl _) hal2
 replace s2 := seesB_of s2 (Nat.le_refl _) hal2
 rw [← World.size_alloc w2 (.cells #[.string ⟨#[82, 79, 79, 84]⟩, .string ⟨#[83, 80, 65, 78]⟩] 9)] at hn2
 replace hbw := Lib.hid (bgo hbw.out hal2)
 have hpg : Hid (partG ns lo hi = encT [(nROOT, rootG (ns.map leafH)), (nSPAN, spanB lo hi)]) := rfl
 generalize rootG (ns.map leafH) = R at *
 generalize spanB lo hi = S at *
 have hms := message_any ((w2.alloc (.cells #[.string ⟨#[82, 79, 79, 84]⟩, .string ⟨#[83, 80, 65, 78]⟩] 9)).alloc (.cells #[.slice A1 R.length c1, .slice A2 S.length c2] 25)).heap.size (.slice (some ⟨w2.heap.size, 0, none⟩) 2 2) (.slice (some ⟨(w2.alloc (.cells #[.string ⟨#[82, 79, 79, 84]⟩, .string ⟨#[83, 80, 65, 78]⟩] 9)).heap.size, 0, none⟩) 2 2) names2 [R, S] ((w2.alloc (.cells #[.string ⟨#[82, 79, 79, 84]⟩, .string ⟨#[83, 80, 65, 78]⟩] 9)).alloc (.cells #[.slice A1 R.length c1, .slice A2 S.length c2] 25))
  ((hn2.below (balloc _ _)).more (balloc _ _).size)
  (seesL_lit _ 25 (vs := [.slice A1 R.length c1, .slice A2 S.length c2]) ⟨s1, s2, trivial⟩ (by simp [maxLen]))
  (Nat.le_refl _) rfl (by simp [names2]) (by
   have h1 := hR.out
   have h2 := hS.out
   simp only [names2, List.zip_cons_cons, List.zip_nil_right, dataT, List.map_cons, List.map_nil, List.flatten_cons, List.flatten_nil, List.length_append, List.length_nil]
   omega)
 rw [show names2.zip [R, S] = [(nROOT, R), (nSPAN, S)] from rfl] at hms
 replace hbw := Lib.hid (bgo hbw.out (balloc (w2.alloc (.cells #[.string ⟨#[82, 79, 79, 84]⟩, .string ⟨#[83, 80, 65, 78]⟩] 9)) (.cells #[.slice A1 R.length c1, .slice A2 S.length c2] 25)))
 rw [World.size_alloc] at hms
 replace hms := Lib.hid hms
 clear y0 y1 x3 hsp o1 o2 s1 s2 hn2 hal2 hb2
 dsimp only
 go_wp2_with fail
 refine hms.out.mono ?_
 rintro e w3 ⟨v3, rfl, o3, hb3⟩
 have hsz := hbw.out.size
 replace hbw := Lib.hid (bgo hbw.out hb3)
 obtain ⟨A3, c3, rfl, -, -⟩ := o3.sees.mk_
 dsimp only
 go_wp2_with fail
 go_returns
 exact ⟨_, rfl, by rw [hpg.out]; exact o3.mono hsz, hbw.out⟩
theorem ansTags_zip (i n : Nat) (P S part : Bs) : names5.zip [putB 4 i, putB 4 n, P, pad4 S, part] = ansTags i n P S part := rfl
set_option linter.unusedSimpArgs false
theorem jtwo {Y X : World} {v1 v2 : Value} {a b : Bs} (s1 : SeesB Y Y.heap.size v1 a) (s2 : SeesB Y Y.heap.size v2 b) (G : Nat) (hG : G = Y.heap.size) (hX : Below (Y.alloc (.cells #[v1, v2] 25)).heap.size (Y.alloc (.cells #[v1, v2] 25)) X) (hl : (a ++ b).length ≤ 1099511627776) :
 Calls Tryz.prog 70 #[.slice (some ⟨G, 0, none⟩) 2 2] X (Gives (a ++ b) X) := by
 subst hG
 have h := seesL_lit Y 25 (vs := [v1, v2]) (ls := [a, b]) ⟨s1, s2, trivial⟩ (by simp [maxLen])
 have hf : [a, b].flatten = a ++ b := by simp
 have := join_any _ _ [a, b] X (h.below hX) hX.size (by rw [hf]; exact hl)
 rw [hf] at this
 exact this
set_option maxRecDepth 100000 in
set_option maxHeartbeats 8000000 in
theorem answer_any (B : Nat) (u u2 : Value) (sd : Bs) (h n : Int) (ns : List Bs) (lo hi : Int) (w : World) (hu : SeesB w B u sd) (hu2 : SeesL w B u2 ns) (hB : B ≤ w.heap.size) (hn : ns.length ≤ 1048576) :
 Calls Tryz.prog 16 #[.agg #[u, .int .i64 h, .int .i64 n], u2, .agg #[.int .i64 lo, .int .i64 hi]] w (AnswerP (answerR sd h n ns lo hi) w) := by
 obtain ⟨A, c, rfl, -, -⟩ := hu.mk_
 obtain ⟨A2, c2, rfl, -, -⟩ := hu2.mk_
 have b3 := bgo (bgo (balloc w (.cells #[.slice A sd.length c, .int .i64 h, .int .i64 n] 27)) (balloc _ (.cells #[.int .i64 lo, .int .i64 hi] 24))) (balloc _ (.cells #[.slice none 0 0, .int .i64 0, .int .i64 0] 27))
 have x3 := ((Box.new w 27 [.slice A sd.length c, .int .i64 h, .int .i64 n]).below (balloc _ (.cells #[.int .i64 lo, .int .i64 hi] 24))).below (balloc _ (.cells #[.slice none 0 0, .int .i64 0, .int .i64 0] 27))
 have x5 := (Box.new (w.alloc (.cells #[.slice A sd.length c, .int .i64 h, .int .i64 n] 27)) 24 [.int .i64 lo, .int .i64 hi]).below (balloc _ (.cells #[.slice none 0 0, .int .i64 0, .int .i64 0] 27))
 have x6 := Box.new ((w.alloc (.cells #[.slice A sd.length c, .int .i64 h, .int .i64 n] 27)).alloc (.cells #[.int .i64 lo, .int .i64 hi] 24)) 27 [.slice none 0 0, .int .i64 0, .int .i64 0]
 rw [World.size_alloc] at x5
 rw [World.size_alloc, World.size_alloc] at x6
 have su := Lib.hid (seesB_of hu hB b3)
 have sn := Lib.hid (seesL_of hu2 hB b3)
 have hg6 : w.heap.size ≤ w.heap.size + 1 + 1 := by omega
 replace hg6 := Lib.hid hg6
 have hn9 := Lib.hid hn
 have hbw := Lib.hid b3
 clear hu hu2 b3 hn
 change Box (((w.alloc (.cells #[.slice A sd.length c, .int .i64 h, .int .i64 n] 27)).alloc (.cells #[.int .i64 lo, .int .i64 hi] 24)).alloc (.cells #[.slice none 0 0, .int .i64 0, .int .i64 0] 27)) _ _ _ at x3 x5 x6
 go_enter Tryz.func16, Tryz.ntmps16
 go_upto_region 1 with (fail)
 generalize ((w.alloc (.cells #[.slice A sd.length c, .int .i64 h, .int .i64 n] 27)).alloc (.cells #[.int .i64 lo, .int .i64 hi] 24)).alloc (.cells #[.slice none 0 0, .int .i64 0, .int .i64 0] 27) = W0 at *
 generalize hG6 : w.heap.size + 1 + 1 = g6 at *
 generalize hG5 : w.heap.size + 1 = g5 at *
 generalize hG3 : w.heap.size = g3 at x3 ⊢
 replace hG6 := Lib.hid hG6
 replace hG5 := Lib.hid hG5
 replace hG3 := Lib.hid hG3
 obtain ⟨a0, a1, a2, -, -, -⟩ := box3_cells x3
 obtain ⟨a3, a4⟩ := boxT2 x5
 have hck := Lib.hid (bcheck_any W0.heap.size _ _ sd h n ns lo hi W0 su.out sn.out (Nat.le_refl _))
 go_wp2_with fail
 refine hck.out.mono ?_
 rintro e w1 ⟨rfl, hb1⟩
 replace x3 := x3.below hb1
 replace x5 := x5.below hb1
 replace x6 := x6.below hb1
 replace su := Lib.hid (seesB_of su.out (Nat.le_refl _) hb1)
 replace sn := Lib.hid (seesL_of sn.out (Nat.le_refl _) hb1)
 replace hbw := Lib.hid (bgo hbw.out hb1)
 clear a0 a1 a2 a3 a4 hck hb1
 dsimp only
 by_cases E1 : bchkC sd h n ns lo hi = 0
 rotate_left
 · have hr : Hid (answerR sd h n ns lo hi = (([], 0, 0), [], bchkC sd h n ns lo hi)) := by show _ = _; rw [answerR, if_neg E1]
   have hE : (bchkC sd h n ns lo hi == 0) = false := by simp [E1]
   generalize bchkC sd h n ns lo hi = E at *
   replace E1 := Lib.hid E1
   clear x3 x5
   obtain ⟨y0, y1, y2, f0, f1, f2⟩ := box3_cells x6
   go_wp2_with fail
   have k := box_set3 x6 (.slice none 0 0) (.int .i64 0) (.int .i64 0)
   have kb := Lib.hid (below_set3 hbw.out hg6.out (.slice none 0 0) (.int .i64 0) (.int .i64 0))
   clear y0 y1 y2 f0 f1 f2 x6
   generalize ((w1.setCell ⟨g6, 0, none⟩ (.slice none 0 0)).setCell ⟨g6, 1, none⟩ (.int .i64 0)).setCell ⟨g6, 2, none⟩ (.int .i64 0) = W9 at *
   obtain ⟨z0, z1, z2, -, -, -⟩ := box3_cells k
   refine bodyPost_ret (v := .tuple #[.agg #[.slice none 0 0, .int .i64 0, .int .i64 0], .slice none 0 0, .int .i64 E]) (by simp [results, Tryz.results16, go_sem, z0, z1, z2]) rfl ?_
   exact answer_bad hr.out kb.out
 obtain ⟨hvI, hn1, hn2, hvs, h32⟩ := bchk_zero E1
 have hr : Hid (answerR sd h n ns lo hi = if (signAll sd h n (tBatch ++ partG ns lo hi)).2.2.2.2 = 0 then
  (((signAll sd h n (tBatch ++ partG ns lo hi)).1, (signAll sd h n (tBatch ++ partG ns lo hi)).2.1, (signAll sd h n (tBatch ++ partG ns lo hi)).2.2.1), ansL ns (signAll sd h n (tBatch ++ partG ns lo hi)).2.2.2.1 (partG ns lo hi) ns.length, 0)
  else (([], 0, 0), [], (signAll sd h n (tBatch ++ partG ns lo hi)).2.2.2.2)) := by show _ = _; rw [answerR, if_pos E1]
 rw [E1]
 have hsg := Lib.hid (bsigned_any w1.heap.size _ ns lo hi w1 sn.out (Nat.le_refl _) hvs hn2 h32)
 have hTl2 := partG_len ns lo hi
 generalize partG ns lo hi = T at *
 obtain ⟨a3, a4⟩ := boxT2 x5
 replace E1 := Lib.hid E1
 replace hvI := Lib.hid hvI
 replace hvs := Lib.hid hvs
 replace h32 := Lib.hid h32
 go_wp2_with fail
 refine hsg.out.mono ?_
 rintro e W2 ⟨v7, rfl, o7, hb2⟩
 have sp2 := o7.sees
 obtain ⟨A7, c7, rfl, -, -⟩ := o7.sees.mk_
 replace sp2 := Lib.hid sp2
 replace x3 := x3.below hb2
 replace x6 := x6.below hb2
 replace su := Lib.hid (seesB_of su.out (Nat.le_refl _) hb2)
 replace sn := Lib.hid (seesL_of sn.out (Nat.le_refl _) hb2)
 replace hbw := Lib.hid (bgo hbw.out hb2)
 clear a3 a4 x5 hsg hb2 o7
 dsimp only
 have hm : (tBatch ++ T).length ≤ 65535 := by rw [List.length_append]; simp [tBatch]; omega
 have hTl : Hid ((tBatch ++ T).length ≤ 1099511627776) := by show _ ≤ _; omega
 have hsn := fun (W : World) (v : Value) (hW : Below W2.heap.size W2 W) (hv : SeesB W W.heap.size v (tBatch ++ T)) => sign_all W.heap.size (.slice A sd.length c) v sd (tBatch ++ T) h n W (seesB_of su.out (Nat.le_refl _) hW) hv (Nat.le_refl _) hm
 have hrg := fun h0 => sign_sig (m := tBatch ++ T) hvI.out h0
 generalize hsa : signAll sd h n (tBatch ++ T) = r at *
 replace hsa := Lib.hid hsa
 obtain ⟨rs, rh, rn, rg, rc⟩ := r
 dsimp only at hr hrg
 have hrl : Hid (rc = 0 → rg.length ≤ 757) := fun h0 => by
  obtain ⟨k', i', -, -, hk6, -, -, e9⟩ := hrg h0
  cases e9
  rw [sigG_len]
  omega
 unfold SignPost at hsn
 dsimp only at hsn
 replace hsn := Lib.hid hsn
 replace hm := Lib.hid hm
 have K : Hid (∀ W : World, Below W2.heap.size W2 W → W.cell? ⟨g3, 0, none⟩ = some (.slice A sd.length c) ∧ W.cell? ⟨g3, 1, none⟩ = some (.int .i64 h) ∧ W.cell? ⟨g3, 2, none⟩ = some (.int .i64 n)) := fun W hW => ⟨(x3.below hW).cell 0, (x3.below hW).cell 1, (x3.below hW).cell 2⟩
 obtain ⟨c0, c1, c2'⟩ := K.out W2 (Below.refl _ _)
 clear hrg x3
 go_wp2_with fail
 go_cut [11, 12, 13] (fun v11 v12 v13 W => SgnR W2 rs rh rn rg rc v11 v12 v13 W)
 case first =>
  have sT := sp2.out
  have q1 : SeesB (W2.alloc (.cells #[.int .u8 115, .int .u8 101, .int .u8 99, .int .u8 116, .int .u8 105, .int .u8 109, .int .u8 101, .int .u8 32, .int .u8 98, .int .u8 97, .int .u8 116, .int .u8 99, .int .u8 104] 5 (13, 14))) (W2.alloc (.cells #[.int .u8 115, .int .u8 101, .int .u8 99, .int .u8 116, .int .u8 105, .int .u8 109, .int .u8 101, .int .u8 32, .int .u8 98, .int .u8 97, .int .u8 116, .int .u8 99, .int .u8 104] 5 (13, 14))).heap.size (.slice (some ⟨W2.heap.size, 0, none⟩) 13 13) tBatch := (lit13_sees W2).more (by rw [World.size_alloc]; exact Nat.le_refl _)
  have p1 : SeesB (W2.alloc (.cells #[.int .u8 115, .int .u8 101, .int .u8 99, .int .u8 116, .int .u8 105, .int .u8 109, .int .u8 101, .int .u8 32, .int .u8 98, .int .u8 97, .int .u8 116, .int .u8 99, .int .u8 104] 5 (13, 14))) (W2.alloc (.cells #[.int .u8 115, .int .u8 101, .int .u8 99, .int .u8 116, .int .u8 105, .int .u8 109, .int .u8 101, .int .u8 32, .int .u8 98, .int .u8 97, .int .u8 116, .int .u8 99, .int .u8 104] 5 (13, 14))).heap.size (.slice A7 T.length c7) T := seesB_of sT (Nat.le_refl _) (balloc W2 _)
  have q2 : SeesB ((W2.alloc (.cells #[.slice none 0 0, .int .i64 0, .int .i64 0] 27)).alloc (.cells #[.int .u8 115, .int .u8 101, .int .u8 99, .int .u8 116, .int .u8 105, .int .u8 109, .int .u8 101, .int .u8 32, .int .u8 98, .int .u8 97, .int .u8 116, .int .u8 99, .int .u8 104] 5 (13, 14))) ((W2.alloc (.cells #[.slice none 0 0, .int .i64 0, .int .i64 0] 27)).alloc (.cells #[.int .u8 115, .int .u8 101, .int .u8 99, .int .u8 116, .int .u8 105, .int .u8 109, .int .u8 101, .int .u8 32, .int .u8 98, .int .u8 97, .int .u8 116, .int .u8 99, .int .u8 104] 5 (13, 14))).heap.size (.slice (some ⟨W2.heap.size + 1, 0, none⟩) 13 13) tBatch := by have h := lit13_sees (W2.alloc (.cells #[.slice none 0 0, .int .i64 0, .int .i64 0] 27)); rw [World.size_alloc] at h; exact h.more (by rw [World.size_alloc, World.size_alloc]; exact Nat.le_refl _)
  have p2 : SeesB ((W2.alloc (.cells #[.slice none 0 0, .int .i64 0, .int .i64 0] 27)).alloc (.cells #[.int .u8 115, .int .u8 101, .int .u8 99, .int .u8 116, .int .u8 105, .int .u8 109, .int .u8 101, .int .u8 32, .int .u8 98, .int .u8 97, .int .u8 116, .int .u8 99, .int .u8 104] 5 (13, 14))) ((W2.alloc (.cells #[.slice none 0 0, .int .i64 0, .int .i64 0] 27)).alloc (.cells #[.int .u8 115, .int .u8 101, .int .u8 99, .int .u8 116, .int .u8 105, .int .u8 109, .int .u8 101, .int .u8 32, .int .u8 98, .int .u8 97, .int .u8 116, .int .u8 99, .int .u8 104] 5 (13, 14))).heap.size (.slice A7 T.length c7) T := seesB_of sT (Nat.le_refl _) (bgo (balloc W2 _) (balloc _ _))
  have q3 : SeesB ((W2.alloc (.cells #[.int .u8 115, .int .u8 101, .int .u8 99, .int .u8 116, .int .u8 105, .int .u8 109, .int .u8 101, .int .u8 32, .int .u8 98, .int .u8 97, .int .u8 116, .int .u8 99, .int .u8 104] 5 (13, 14))).alloc (.cells #[.slice none 0 0, .int .i64 0, .int .i64 0] 27)) ((W2.alloc (.cells #[.int .u8 115, .int .u8 101, .int .u8 99, .int .u8 116, .int .u8 105, .int .u8 109, .int .u8 101, .int .u8 32, .int .u8 98, .int .u8 97, .int .u8 116, .int .u8 99, .int .u8 104] 5 (13, 14))).alloc (.cells #[.slice none 0 0, .int .i64 0, .int .i64 0] 27)).heap.size (.slice (some ⟨W2.heap.size, 0, none⟩) 13 13) tBatch := seesB_of q1 (Nat.le_refl _) (balloc _ _)
  have p3 : SeesB ((W2.alloc (.cells #[.int .u8 115, .int .u8 101, .int .u8 99, .int .u8 116, .int .u8 105, .int .u8 109, .int .u8 101, .int .u8 32, .int .u8 98, .int .u8 97, .int .u8 116, .int .u8 99, .int .u8 104] 5 (13, 14))).alloc (.cells #[.slice none 0 0, .int .i64 0, .int .i64 0] 27)) ((W2.alloc (.cells #[.int .u8 115, .int .u8 101, .int .u8 99, .int .u8 116, .int .u8 105, .int .u8 109, .int .u8 101, .int .u8 32, .int .u8 98, .int .u8 97, .int .u8 116, .int .u8 99, .int .u8 104] 5 (13, 14))).alloc (.cells #[.slice none 0 0, .int .i64 0, .int .i64 0] 27)).heap.size (.slice A7 T.length c7) T := seesB_of p1 (Nat.le_refl _) (balloc _ _)
  have hja := Lib.hid (jtwo (X := ((W2.alloc (.cells #[.int .u8 115, .int .u8 101, .int .u8 99, .int .u8 116, .int .u8 105, .int .u8 109, .int .u8 101, .int .u8 32, .int .u8 98, .int .u8 97, .int .u8 116, .int .u8 99, .int .u8 104] 5 (13, 14))).alloc (.cells #[.slice (some ⟨W2.heap.size, 0, none⟩) 13 13, .slice A7 T.length c7] 25))) q1 p1 (W2.heap.size + 1) (by simp only [World.size_alloc]) (Below.refl _ _) hTl.out)
  have hda := Lib.hid (jtwo (X := ((W2.alloc (.cells #[.int .u8 115, .int .u8 101, .int .u8 99, .int .u8 116, .int .u8 105, .int .u8 109, .int .u8 101, .int .u8 32, .int .u8 98, .int .u8 97, .int .u8 116, .int .u8 99, .int .u8 104] 5 (13, 14))).alloc (.cells #[.slice (some ⟨W2.heap.size, 0, none⟩) 13 13, .slice A7 T.length c7] 25)).drew) q1 p1 (W2.heap.size + 1) (by simp only [World.size_alloc]) (bgo (Below.refl _ _) (bdrew _)) hTl.out)
  have hjb := Lib.hid (jtwo (X := (((W2.alloc (.cells #[.int .u8 115, .int .u8 101, .int .u8 99, .int .u8 116, .int .u8 105, .int .u8 109, .int .u8 101, .int .u8 32, .int .u8 98, .int .u8 97, .int .u8 116, .int .u8 99, .int .u8 104] 5 (13, 14))).alloc (.cells #[.slice (some ⟨W2.heap.size, 0, none⟩) 13 13, .slice A7 T.length c7] 25)).alloc (.cells #[.slice none 0 0, .int .i64 0, .int .i64 0] 27))) q1 p1 (W2.heap.size + 1) (by simp only [World.size_alloc]) (balloc _ _) hTl.out)
  have hdb := Lib.hid (jtwo (X := (((W2.alloc (.cells #[.int .u8 115, .int .u8 101, .int .u8 99, .int .u8 116, .int .u8 105, .int .u8 109, .int .u8 101, .int .u8 32, .int .u8 98, .int .u8 97, .int .u8 116, .int .u8 99, .int .u8 104] 5 (13, 14))).alloc (.cells #[.slice (some ⟨W2.heap.size, 0, none⟩) 13 13, .slice A7 T.length c7] 25)).alloc (.cells #[.slice none 0 0, .int .i64 0, .int .i64 0] 27)).drew) q1 p1 (W2.heap.size + 1) (by simp only [World.size_alloc]) (bgo (balloc _ _) (bdrew _)) hTl.out)
  have hjc := Lib.hid (jtwo (X := (((W2.alloc (.cells #[.slice none 0 0, .int .i64 0, .int .i64 0] 27)).alloc (.cells #[.int .u8 115, .int .u8 101, .int .u8 99, .int .u8 116, .int .u8 105, .int .u8 109, .int .u8 101, .int .u8 32, .int .u8 98, .int .u8 97, .int .u8 116, .int .u8 99, .int .u8 104] 5 (13, 14))).alloc (.cells #[.slice (some ⟨W2.heap.size + 1, 0, none⟩) 13 13, .slice A7 T.length c7] 25))) q2 p2 (W2.heap.size + 1 + 1) (by simp only [World.size_alloc]) (Below.refl _ _) hTl.out)
  have hdc := Lib.hid (jtwo (X := (((W2.alloc (.cells #[.slice none 0 0, .int .i64 0, .int .i64 0] 27)).alloc (.cells #[.int .u8 115, .int .u8 101, .int .u8 99, .int .u8 116, .int .u8 105, .int .u8 109, .int .u8 101, .int .u8 32, .int .u8 98, .int .u8 97, .int .u8 116, .int .u8 99, .int .u8 104] 5 (13, 14))).alloc (.cells #[.slice (some ⟨W2.heap.size + 1, 0, none⟩) 13 13, .slice A7 T.length c7] 25)).drew) q2 p2 (W2.heap.size + 1 + 1) (by simp only [World.size_alloc]) (bgo (Below.refl _ _) (bdrew _)) hTl.out)
  have hjd := Lib.hid (jtwo (X := (((W2.alloc (.cells #[.int .u8 115, .int .u8 101, .int .u8 99, .int .u8 116, .int .u8 105, .int .u8 109, .int .u8 101, .int .u8 32, .int .u8 98, .int .u8 97, .int .u8 116, .int .u8 99, .int .u8 104] 5 (13, 14))).alloc (.cells #[.slice none 0 0, .int .i64 0, .int .i64 0] 27)).alloc (.cells #[.slice (some ⟨W2.heap.size, 0, none⟩) 13 13, .slice A7 T.length c7] 25))) q3 p3 (W2.heap.size + 1 + 1) (by simp only [World.size_alloc]) (Below.refl _ _) hTl.out)
  have hdd := Lib.hid (jtwo (X := (((W2.alloc (.cells #[.int .u8 115, .int .u8 101, .int .u8 99, .int .u8 116, .int .u8 105, .int .u8 109, .int .u8 101, .int .u8 32, .int .u8 98, .int .u8 97, .int .u8 116, .int .u8 99, .int .u8 104] 5 (13, 14))).alloc (.cells #[.slice none 0 0, .int .i64 0, .int .i64 0] 27)).alloc (.cells #[.slice (some ⟨W2.heap.size, 0, none⟩) 13 13, .slice A7 T.length c7] 25)).drew) q3 p3 (W2.heap.size + 1 + 1) (by simp only [World.size_alloc]) (bgo (Below.refl _ _) (bdrew _)) hTl.out)
  clear sT q1 p1 q2 p2 q3 p3 x6
  generalize tBatch ++ T = M at *
  have hcAj : (convert 25 25 (.slice (some ⟨W2.heap.size, 0, none⟩) 13 13)).run Tryz.prog (W2.alloc (.cells #[.int .u8 115, .int .u8 101, .int .u8 99, .int .u8 116, .int .u8 105, .int .u8 109, .int .u8 101, .int .u8 32, .int .u8 98, .int .u8 97, .int .u8 116, .int .u8 99, .int .u8 104] 5)) = .ok (.slice (some ⟨W2.heap.size, 0, none⟩) 13 13) (W2.alloc (.cells #[.int .u8 115, .int .u8 101, .int .u8 99, .int .u8 116, .int .u8 105, .int .u8 109, .int .u8 101, .int .u8 32, .int .u8 98, .int .u8 97, .int .u8 116, .int .u8 99, .int .u8 104] 5 (13, 14))) := lit13_runJ W2 W2.heap.size rfl
  have hcBj : (convert 25 25 (.slice (some ⟨W2.heap.size + 1, 0, none⟩) 13 13)).run Tryz.prog ((W2.alloc (.cells #[.slice none 0 0, .int .i64 0, .int .i64 0] 27)).alloc (.cells #[.int .u8 115, .int .u8 101, .int .u8 99, .int .u8 116, .int .u8 105, .int .u8 109, .int .u8 101, .int .u8 32, .int .u8 98, .int .u8 97, .int .u8 116, .int .u8 99, .int .u8 104] 5)) = .ok (.slice (some ⟨W2.heap.size + 1, 0, none⟩) 13 13) ((W2.alloc (.cells #[.slice none 0 0, .int .i64 0, .int .i64 0] 27)).alloc (.cells #[.int .u8 115, .int .u8 101, .int .u8 99, .int .u8 116, .int .u8 105, .int .u8 109, .int .u8 101, .int .u8 32, .int .u8 98, .int .u8 97, .int .u8 116, .int .u8 99, .int .u8 104] 5 (13, 14))) := lit13_runJ (W2.alloc (.cells #[.slice none 0 0, .int .i64 0, .int .i64 0] 27)) (W2.heap.size + 1) (by rw [World.size_alloc])
  have hcCj : (convert 25 25 (.slice (some ⟨W2.heap.size, 0, none⟩) 13 13)).run Tryz.prog ((W2.alloc (.cells #[.int .u8 115, .int .u8 101, .int .u8 99, .int .u8 116, .int .u8 105, .int .u8 109, .int .u8 101, .int .u8 32, .int .u8 98, .int .u8 97, .int .u8 116, .int .u8 99, .int .u8 104] 5)).alloc (.cells #[.slice none 0 0, .int .i64 0, .int .i64 0] 27)) = .ok (.slice (some ⟨W2.heap.size, 0, none⟩) 13 13) ((W2.alloc (.cells #[.int .u8 115, .int .u8 101, .int .u8 99, .int .u8 116, .int .u8 105, .int .u8 109, .int .u8 101, .int .u8 32, .int .u8 98, .int .u8 97, .int .u8 116, .int .u8 99, .int .u8 104] 5 (13, 14))).alloc (.cells #[.slice none 0 0, .int .i64 0, .int .i64 0] 27)) := lit13_mid W2 _ _ 13 13 rfl
  have hcAd : (convert 25 25 (.slice (some ⟨W2.heap.size, 0, none⟩) 13 13)).run Tryz.prog (W2.alloc (.cells #[.int .u8 115, .int .u8 101, .int .u8 99, .int .u8 116, .int .u8 105, .int .u8 109, .int .u8 101, .int .u8 32, .int .u8 98, .int .u8 97, .int .u8 116, .int .u8 99, .int .u8 104] 5)).drew = .ok (.slice (some ⟨W2.heap.size, 0, none⟩) 13 13) (W2.alloc (.cells #[.int .u8 115, .int .u8 101, .int .u8 99, .int .u8 116, .int .u8 105, .int .u8 109, .int .u8 101, .int .u8 32, .int .u8 98, .int .u8 97, .int .u8 116, .int .u8 99, .int .u8 104] 5 (13, 14))).drew := lit13_run W2 W2.heap.size rfl
  have hcBd : (convert 25 25 (.slice (some ⟨W2.heap.size + 1, 0, none⟩) 13 13)).run Tryz.prog ((W2.alloc (.cells #[.slice none 0 0, .int .i64 0, .int .i64 0] 27)).alloc (.cells #[.int .u8 115, .int .u8 101, .int .u8 99, .int .u8 116, .int .u8 105, .int .u8 109, .int .u8 101, .int .u8 32, .int .u8 98, .int .u8 97, .int .u8 116, .int .u8 99, .int .u8 104] 5)).drew = .ok (.slice (some ⟨W2.heap.size + 1, 0, none⟩) 13 13) ((W2.alloc (.cells #[.slice none 0 0, .int .i64 0, .int .i64 0] 27)).alloc (.cells #[.int .u8 115, .int .u8 101, .int .u8 99, .int .u8 116, .int .u8 105, .int .u8 109, .int .u8 101, .int .u8 32, .int .u8 98, .int .u8 97, .int .u8 116, .int .u8 99, .int .u8 104] 5 (13, 14))).drew := lit13_run (W2.alloc (.cells #[.slice none 0 0, .int .i64 0, .int .i64 0] 27)) (W2.heap.size + 1) (by rw [World.size_alloc])
  have hcCd : (convert 25 25 (.slice (some ⟨W2.heap.size, 0, none⟩) 13 13)).run Tryz.prog ((W2.alloc (.cells #[.int .u8 115, .int .u8 101, .int .u8 99, .int .u8 116, .int .u8 105, .int .u8 109, .int .u8 101, .int .u8 32, .int .u8 98, .int .u8 97, .int .u8 116, .int .u8 99, .int .u8 104] 5)).alloc (.cells #[.slice none 0 0, .int .i64 0, .int .i64 0] 27)).drew = .ok (.slice (some ⟨W2.heap.size, 0, none⟩) 13 13) ((W2.alloc (.cells #[.int .u8 115, .int .u8 101, .int .u8 99, .int .u8 116, .int .u8 105, .int .u8 109, .int .u8 101, .int .u8 32, .int .u8 98, .int .u8 97, .int .u8 116, .int .u8 99, .int .u8 104] 5 (13, 14))).alloc (.cells #[.slice none 0 0, .int .i64 0, .int .i64 0] 27)).drew := lit13_mid W2.drew _ _ 13 13 rfl
  have bxb : Box (((W2.alloc (.cells #[.int .u8 115, .int .u8 101, .int .u8 99, .int .u8 116, .int .u8 105, .int .u8 109, .int .u8 101, .int .u8 32, .int .u8 98, .int .u8 97, .int .u8 116, .int .u8 99, .int .u8 104] 5 (13, 14))).alloc (.cells #[.slice (some ⟨W2.heap.size, 0, none⟩) 13 13, .slice A7 T.length c7] 25)).alloc (.cells #[.slice none 0 0, .int .i64 0, .int .i64 0] 27)) (W2.heap.size + 1 + 1) 27 [.slice none 0 0, .int .i64 0, .int .i64 0] := by
   have h := Box.new ((W2.alloc (.cells #[.int .u8 115, .int .u8 101, .int .u8 99, .int .u8 116, .int .u8 105, .int .u8 109, .int .u8 101, .int .u8 32, .int .u8 98, .int .u8 97, .int .u8 116, .int .u8 99, .int .u8 104] 5 (13, 14))).alloc (.cells #[.slice (some ⟨W2.heap.size, 0, none⟩) 13 13, .slice A7 T.length c7] 25)) 27 [.slice none 0 0, .int .i64 0, .int .i64 0]
   rw [World.size_alloc, World.size_alloc] at h
   exact h
  have bxc : Box (((W2.alloc (.cells #[.slice none 0 0, .int .i64 0, .int .i64 0] 27)).alloc (.cells #[.int .u8 115, .int .u8 101, .int .u8 99, .int .u8 116, .int .u8 105, .int .u8 109, .int .u8 101, .int .u8 32, .int .u8 98, .int .u8 97, .int .u8 116, .int .u8 99, .int .u8 104] 5 (13, 14))).alloc (.cells #[.slice (some ⟨W2.heap.size + 1, 0, none⟩) 13 13, .slice A7 T.length c7] 25)) W2.heap.size 27 [.slice none 0 0, .int .i64 0, .int .i64 0] := ((Box.new W2 27 [.slice none 0 0, .int .i64 0, .int .i64 0]).below (balloc _ (.cells #[.int .u8 115, .int .u8 101, .int .u8 99, .int .u8 116, .int .u8 105, .int .u8 109, .int .u8 101, .int .u8 32, .int .u8 98, .int .u8 97, .int .u8 116, .int .u8 99, .int .u8 104] 5 (13, 14)))).below (balloc _ (.cells #[.slice (some ⟨W2.heap.size + 1, 0, none⟩) 13 13, .slice A7 T.length c7] 25))
  have bxd : Box (((W2.alloc (.cells #[.int .u8 115, .int .u8 101, .int .u8 99, .int .u8 116, .int .u8 105, .int .u8 109, .int .u8 101, .int .u8 32, .int .u8 98, .int .u8 97, .int .u8 116, .int .u8 99, .int .u8 104] 5 (13, 14))).alloc (.cells #[.slice none 0 0, .int .i64 0, .int .i64 0] 27)).alloc (.cells #[.slice (some ⟨W2.heap.size, 0, none⟩) 13 13, .slice A7 T.length c7] 25)) (W2.heap.size + 1) 27 [.slice none 0 0, .int .i64 0, .int .i64 0] := by
   have h := (Box.new (W2.alloc (.cells #[.int .u8 115, .int .u8 101, .int .u8 99, .int .u8 116, .int .u8 105, .int .u8 109, .int .u8 101, .int .u8 32, .int .u8 98, .int .u8 97, .int .u8 116, .int .u8 99, .int .u8 104] 5 (13, 14))) 27 [.slice none 0 0, .int .i64 0, .int .i64 0]).below (balloc _ (.cells #[.slice (some ⟨W2.heap.size, 0, none⟩) 13 13, .slice A7 T.length c7] 25))
   rw [World.size_alloc] at h
   exact h
  replace bxb := Lib.hid bxb
  replace bxc := Lib.hid bxc
  replace bxd := Lib.hid bxd
  obtain ⟨m0a, m0b, m0c⟩ := K.out (W2.alloc (.cells #[.int .u8 115, .int .u8 101, .int .u8 99, .int .u8 116, .int .u8 105, .int .u8 109, .int .u8 101, .int .u8 32, .int .u8 98, .int .u8 97, .int .u8 116, .int .u8 99, .int .u8 104] 5)) (balloc W2 _)
  obtain ⟨m1a, m1b, m1c⟩ := K.out (W2.alloc (.cells #[.int .u8 115, .int .u8 101, .int .u8 99, .int .u8 116, .int .u8 105, .int .u8 109, .int .u8 101, .int .u8 32, .int .u8 98, .int .u8 97, .int .u8 116, .int .u8 99, .int .u8 104] 5 (13, 14))) (balloc W2 _)
  obtain ⟨m2a, m2b, m2c⟩ := K.out ((W2.alloc (.cells #[.int .u8 115, .int .u8 101, .int .u8 99, .int .u8 116, .int .u8 105, .int .u8 109, .int .u8 101, .int .u8 32, .int .u8 98, .int .u8 97, .int .u8 116, .int .u8 99, .int .u8 104] 5 (13, 14))).alloc (.cells #[.slice (some ⟨W2.heap.size, 0, none⟩) 13 13, .slice A7 T.length c7] 25)) (bgo (balloc W2 _) (balloc _ _))
  obtain ⟨m3a, m3b, m3c⟩ := K.out (((W2.alloc (.cells #[.int .u8 115, .int .u8 101, .int .u8 99, .int .u8 116, .int .u8 105, .int .u8 109, .int .u8 101, .int .u8 32, .int .u8 98, .int .u8 97, .int .u8 116, .int .u8 99, .int .u8 104] 5 (13, 14))).alloc (.cells #[.slice (some ⟨W2.heap.size, 0, none⟩) 13 13, .slice A7 T.length c7] 25)).alloc (.cells #[.slice none 0 0, .int .i64 0, .int .i64 0] 27)) (bgo (bgo (balloc W2 _) (balloc _ _)) (balloc _ _))
  obtain ⟨m4a, m4b, m4c⟩ := K.out (W2.alloc (.cells #[.slice none 0 0, .int .i64 0, .int .i64 0] 27)) (balloc W2 _)
  obtain ⟨m5a, m5b, m5c⟩ := K.out ((W2.alloc (.cells #[.slice none 0 0, .int .i64 0, .int .i64 0] 27)).alloc (.cells #[.int .u8 115, .int .u8 101, .int .u8 99, .int .u8 116, .int .u8 105, .int .u8 109, .int .u8 101, .int .u8 32, .int .u8 98, .int .u8 97, .int .u8 116, .int .u8 99, .int .u8 104] 5)) (bgo (balloc W2 _) (balloc _ _))
  obtain ⟨m6a, m6b, m6c⟩ := K.out ((W2.alloc (.cells #[.slice none 0 0, .int .i64 0, .int .i64 0] 27)).alloc (.cells #[.int .u8 115, .int .u8 101, .int .u8 99, .int .u8 116, .int .u8 105, .int .u8 109, .int .u8 101, .int .u8 32, .int .u8 98, .int .u8 97, .int .u8 116, .int .u8 99, .int .u8 104] 5 (13, 14))) (bgo (balloc W2 _) (balloc _ _))
  obtain ⟨m7a, m7b, m7c⟩ := K.out (((W2.alloc (.cells #[.slice none 0 0, .int .i64 0, .int .i64 0] 27)).alloc (.cells #[.int .u8 115, .int .u8 101, .int .u8 99, .int .u8 116, .int .u8 105, .int .u8 109, .int .u8 101, .int .u8 32, .int .u8 98, .int .u8 97, .int .u8 116, .int .u8 99, .int .u8 104] 5 (13, 14))).alloc (.cells #[.slice (some ⟨W2.heap.size + 1, 0, none⟩) 13 13, .slice A7 T.length c7] 25)) (bgo (bgo (balloc W2 _) (balloc _ _)) (balloc _ _))
  obtain ⟨m8a, m8b, m8c⟩ := K.out ((W2.alloc (.cells #[.int .u8 115, .int .u8 101, .int .u8 99, .int .u8 116, .int .u8 105, .int .u8 109, .int .u8 101, .int .u8 32, .int .u8 98, .int .u8 97, .int .u8 116, .int .u8 99, .int .u8 104] 5)).alloc (.cells #[.slice none 0 0, .int .i64 0, .int .i64 0] 27)) (bgo (balloc W2 _) (balloc _ _))
  obtain ⟨m9a, m9b, m9c⟩ := K.out ((W2.alloc (.cells #[.int .u8 115, .int .u8 101, .int .u8 99, .int .u8 116, .int .u8 105, .int .u8 109, .int .u8 101, .int .u8 32, .int .u8 98, .int .u8 97, .int .u8 116, .int .u8 99, .int .u8 104] 5 (13, 14))).alloc (.cells #[.slice none 0 0, .int .i64 0, .int .i64 0] 27)) (bgo (balloc W2 _) (balloc _ _))
  obtain ⟨m10a, m10b, m10c⟩ := K.out (((W2.alloc (.cells #[.int .u8 115, .int .u8 101, .int .u8 99, .int .u8 116, .int .u8 105, .int .u8 109, .int .u8 101, .int .u8 32, .int .u8 98, .int .u8 97, .int .u8 116, .int .u8 99, .int .u8 104] 5 (13, 14))).alloc (.cells #[.slice none 0 0, .int .i64 0, .int .i64 0] 27)).alloc (.cells #[.slice (some ⟨W2.heap.size, 0, none⟩) 13 13, .slice A7 T.length c7] 25)) (bgo (bgo (balloc W2 _) (balloc _ _)) (balloc _ _))
  go_region_with
   (first
    | (go_at_call 69; (with_reducible refine (hsn.out (w9.alloc (.cells #[.slice none 0 0, .int .i64 0, .int .i64 0] 27)) _ (bgo hb9 (balloc w9 _)) (seesB_of s9 (Nat.le_refl _) (balloc w9 _))).mono ?_); rintro e w10 ⟨v1, v2, rfl, t1, t2, hb10⟩
       obtain ⟨A1, k1, rfl, -, -⟩ := t1.mk_
       obtain ⟨A8, k8, rfl, -, -⟩ := t2.mk_
       have bz := (Box.new w9 27 [.slice none 0 0, .int .i64 0, .int .i64 0]).below hb10
       have hz9 := hb9.size
       replace hb10 := bgo (bgo hb9 (balloc w9 _)) hb10
       obtain ⟨e0, e1, e2, j0, j1, j2⟩ := box3_cells bz)
    | (go_at_call 69; have _q := bz9; (with_reducible refine (hsn.out w9 _ hb9 s9).mono ?_); rintro e w10 ⟨v1, v2, rfl, t1, t2, hb10⟩
       obtain ⟨A1, k1, rfl, -, -⟩ := t1.mk_
       obtain ⟨A8, k8, rfl, -, -⟩ := t2.mk_
       have bz := bz9.below hb10
       replace hb10 := bgo hb9 hb10
       have hz9 : W2.heap.size ≤ W2.heap.size := Nat.le_refl W2.heap.size
       obtain ⟨e0, e1, e2, j0, j1, j2⟩ := box3_cells bz)
    | (go_at_call 69; (with_reducible refine (hsn.out w9 _ hb9 s9).mono ?_); rintro e w10 ⟨v1, v2, rfl, t1, t2, hb10⟩
       obtain ⟨A1, k1, rfl, -, -⟩ := t1.mk_
       obtain ⟨A8, k8, rfl, -, -⟩ := t2.mk_
       replace hb10 := bgo hb9 hb10)
    | (go_at_call 70; (with_reducible refine hda.out.mono ?_); rintro e w9 ⟨v9, rfl, o9, hb9⟩
       have s9 := o9.sees
       obtain ⟨A9, c9, rfl, -, -⟩ := o9.sees.mk_
       replace hb9 := bgo (bgo (bgo (balloc W2 _) (balloc _ _)) (bdrew _)) hb9
       obtain ⟨d0, d1, d2⟩ := K.out w9 hb9
       obtain ⟨d3, d4, d5⟩ := K.out (w9.alloc (.cells #[.slice none 0 0, .int .i64 0, .int .i64 0] 27)) (bgo hb9 (balloc w9 _)))
    | (go_at_call 70; (with_reducible refine hja.out.mono ?_); rintro e w9 ⟨v9, rfl, o9, hb9⟩
       have s9 := o9.sees
       obtain ⟨A9, c9, rfl, -, -⟩ := o9.sees.mk_
       replace hb9 := bgo (bgo (balloc W2 _) (balloc _ _)) hb9
       obtain ⟨d0, d1, d2⟩ := K.out w9 hb9
       obtain ⟨d3, d4, d5⟩ := K.out (w9.alloc (.cells #[.slice none 0 0, .int .i64 0, .int .i64 0] 27)) (bgo hb9 (balloc w9 _)))
    | (go_at_call 70; (with_reducible refine hdb.out.mono ?_); rintro e w9 ⟨v9, rfl, o9, hb9⟩
       have s9 := o9.sees
       obtain ⟨A9, c9, rfl, -, -⟩ := o9.sees.mk_
       have bz9 := bxb.out.below (bdrew _) |>.below hb9
       replace hb9 := bgo (bgo (bgo (bgo (balloc W2 _) (balloc _ _)) (balloc _ _)) (bdrew _)) hb9
       obtain ⟨d0, d1, d2⟩ := K.out w9 hb9
       obtain ⟨d3, d4, d5⟩ := K.out (w9.alloc (.cells #[.slice none 0 0, .int .i64 0, .int .i64 0] 27)) (bgo hb9 (balloc w9 _)))
    | (go_at_call 70; (with_reducible refine hjb.out.mono ?_); rintro e w9 ⟨v9, rfl, o9, hb9⟩
       have s9 := o9.sees
       obtain ⟨A9, c9, rfl, -, -⟩ := o9.sees.mk_
       have bz9 := bxb.out |>.below hb9
       replace hb9 := bgo (bgo (bgo (balloc W2 _) (balloc _ _)) (balloc _ _)) hb9
       obtain ⟨d0, d1, d2⟩ := K.out w9 hb9
       obtain ⟨d3, d4, d5⟩ := K.out (w9.alloc (.cells #[.slice none 0 0, .int .i64 0, .int .i64 0] 27)) (bgo hb9 (balloc w9 _)))
    | (go_at_call 70; (with_reducible refine hdc.out.mono ?_); rintro e w9 ⟨v9, rfl, o9, hb9⟩
       have s9 := o9.sees
       obtain ⟨A9, c9, rfl, -, -⟩ := o9.sees.mk_
       have bz9 := bxc.out.below (bdrew _) |>.below hb9
       replace hb9 := bgo (bgo (bgo (bgo (balloc W2 _) (balloc _ _)) (balloc _ _)) (bdrew _)) hb9
       obtain ⟨d0, d1, d2⟩ := K.out w9 hb9
       obtain ⟨d3, d4, d5⟩ := K.out (w9.alloc (.cells #[.slice none 0 0, .int .i64 0, .int .i64 0] 27)) (bgo hb9 (balloc w9 _)))
    | (go_at_call 70; (with_reducible refine hjc.out.mono ?_); rintro e w9 ⟨v9, rfl, o9, hb9⟩
       have s9 := o9.sees
       obtain ⟨A9, c9, rfl, -, -⟩ := o9.sees.mk_
       have bz9 := bxc.out |>.below hb9
       replace hb9 := bgo (bgo (bgo (balloc W2 _) (balloc _ _)) (balloc _ _)) hb9
       obtain ⟨d0, d1, d2⟩ := K.out w9 hb9
       obtain ⟨d3, d4, d5⟩ := K.out (w9.alloc (.cells #[.slice none 0 0, .int .i64 0, .int .i64 0] 27)) (bgo hb9 (balloc w9 _)))
    | (go_at_call 70; (with_reducible refine hdd.out.mono ?_); rintro e w9 ⟨v9, rfl, o9, hb9⟩
       have s9 := o9.sees
       obtain ⟨A9, c9, rfl, -, -⟩ := o9.sees.mk_
       have bz9 := bxd.out.below (bdrew _) |>.below hb9
       replace hb9 := bgo (bgo (bgo (bgo (balloc W2 _) (balloc _ _)) (balloc _ _)) (bdrew _)) hb9
       obtain ⟨d0, d1, d2⟩ := K.out w9 hb9
       obtain ⟨d3, d4, d5⟩ := K.out (w9.alloc (.cells #[.slice none 0 0, .int .i64 0, .int .i64 0] 27)) (bgo hb9 (balloc w9 _)))
    | (go_at_call 70; (with_reducible refine hjd.out.mono ?_); rintro e w9 ⟨v9, rfl, o9, hb9⟩
       have s9 := o9.sees
       obtain ⟨A9, c9, rfl, -, -⟩ := o9.sees.mk_
       have bz9 := bxd.out |>.below hb9
       replace hb9 := bgo (bgo (bgo (balloc W2 _) (balloc _ _)) (balloc _ _)) hb9
       obtain ⟨d0, d1, d2⟩ := K.out w9 hb9
       obtain ⟨d3, d4, d5⟩ := K.out (w9.alloc (.cells #[.slice none 0 0, .int .i64 0, .int .i64 0] 27)) (bgo hb9 (balloc w9 _))))
  all_goals
   go_wp2_with fail
   go_meet
   first
    | (with_reducible exact sgn_new W2 w10 _ _ _ _ _ _ _ _ _ t1 t2 hb10)
    | (with_reducible exact sgn_set W2 w10 _ _ _ _ _ _ _ _ _ _ bz t1 t2 (by omega) hb10)
 case rest =>
  obtain ⟨g11, A1, k1, A8, k8, rfl, rfl, rfl, b11, t1, t2, hg11, hb3⟩ := hcut
  obtain ⟨w3, rfl⟩ : ∃ w3 : World, w3 = wc := ⟨_, rfl⟩
  have q6 : Hid (g6 < w3.heap.size) := (x6.below hb3).lt
  replace x6 := x6.below hb3
  replace sn := Lib.hid (seesL_of sn.out (Nat.le_refl _) hb3)
  replace sp2 := Lib.hid (seesB_of sp2.out (Nat.le_refl _) hb3)
  replace hbw := Lib.hid (bgo hbw.out hb3)
  clear c0 c1 c2' K hsn hb3 su hTl hg11
  by_cases hE : rc = 0
  rotate_left
  · have hr2 : Hid (answerR sd h n ns lo hi = (([], 0, 0), [], rc)) := by show _ = _; rw [hr.out, if_neg hE]
    have hEb : (rc == 0) = false := by rw [beq_eq_false_iff_ne]; exact hE
    replace hE := Lib.hid hE
    clear b11 t1 t2
    obtain ⟨y0, y1, y2, f0, f1, f2⟩ := box3_cells x6
    go_wp2_with fail
    have k := box_set3 x6 (.slice none 0 0) (.int .i64 0) (.int .i64 0)
    have kb := Lib.hid (below_set3 hbw.out hg6.out (.slice none 0 0) (.int .i64 0) (.int .i64 0))
    clear y0 y1 y2 f0 f1 f2 x6
    generalize ((w3.setCell ⟨g6, 0, none⟩ (.slice none 0 0)).setCell ⟨g6, 1, none⟩ (.int .i64 0)).setCell ⟨g6, 2, none⟩ (.int .i64 0) = W9 at *
    obtain ⟨z0, z1, z2, -, -, -⟩ := box3_cells k
    refine bodyPost_ret (v := .tuple #[.agg #[.slice none 0 0, .int .i64 0, .int .i64 0], .slice none 0 0, .int .i64 rc]) (by simp [results, Tryz.results16, go_sem, z0, z1, z2]) rfl ?_
    exact answer_bad hr2.out kb.out
  subst hE
  have hr2 : Hid (answerR sd h n ns lo hi = ((rs, rh, rn), ansL ns rg T ns.length, 0)) := by show _ = _; rw [hr.out, if_pos rfl]
  have hrl2 := hrl.out rfl
  have hw3 : Hid (w.heap.size ≤ w3.heap.size) := by show _ ≤ _; exact hbw.out.size
  replace b11 := Lib.hid b11
  replace t1 := Lib.hid t1
  replace t2 := Lib.hid t2
  replace x6 := Lib.hid x6
  clear hr hrl
  go_wp2_with fail
  go_loopw [14, 48] (fun r t wr => ∃ k : Nat, k ≤ ns.length ∧ t = .int .i64 k ∧ Hid (OwnL wr w3.heap.size r (ansL ns rg T k)) ∧ Hid (Below w3.heap.size w3 wr)) (fun _ t _ => ns.length - (intOf t).toNat)
  case atStart => exact ⟨0, by omega, rfl, OwnL.nil _ _, Below.refl _ _⟩
  case round =>
   obtain ⟨k, hk, rfl, ho, hb⟩ := hrel
   obtain ⟨Ar, cr, rfl⟩ := ho.out.shape
   have hkl := ansL_len ns rg T k
   rw [hkl] at ho ⊢
   by_cases hlt : k < ns.length
   · have i0 : (k : Int) < (ns.length : Int) := by omega
     have hst := Lib.hid (ansL_next ns rg T k)
     have hab : Hid (ansB ns rg T k = encT (ansTags k ns.length (pathG (ns.map leafH) k).flatten rg T)) := rfl
     have hpt := path_top ns k wr.heap.size _ wr (seesL_of sn.out (Nat.le_refl _) hb.out) hlt (Nat.le_refl _) (by omega) (fun l hl => by rw [h32.out l hl]; omega)
     unfold PathPost at hpt
     obtain ⟨pl1, pl2, pl3⟩ := pathF_len ns k
     generalize pathG (ns.map leafH) k = PH at *
     have hPl : PH.flatten.length ≤ 512 := by omega
     have hjn := fun W u (hu : SeesL W W.heap.size u PH) => join_any W.heap.size u PH W hu (Nat.le_refl _) (by omega)
     generalize hPF : PH.flatten = PF at *
     replace hPF := Lib.hid hPF
     replace hjn := Lib.hid hjn
     replace hpt := Lib.hid hpt
     replace pl2 := Lib.hid pl2
     replace pl3 := Lib.hid pl3
     generalize ansL ns rg T k = acc at *
     have m1 : IntKind.u64.wrap (k : Int) = (k : Int) := by rw [IntKind.wrap_u64]; omega
     have m2 : IntKind.u64.wrap (ns.length : Int) = (ns.length : Int) := by rw [IntKind.wrap_u64]; omega
     have hp1 := Lib.hid (put4_any k (by omega))
     have hp2 := Lib.hid (put4_any ns.length (by omega))
     have hpd := Lib.hid (fun W u (hu : SeesB W W.heap.size u rg) => padded_any W.heap.size u rg W hu (Nat.le_refl _) (by omega))
     replace hkl := Lib.hid hkl
     go_wp2_with fail
     refine hpt.out.mono ?_
     rintro e w4 ⟨v4, rfl, o4, hb4⟩
     obtain ⟨A4, c4, rfl⟩ := o4.shape
     replace o4 := Lib.hid o4
     clear hpt
     dsimp only
     go_wp2_with fail
     refine (names_any w4).mono ?_
     rintro e w5 ⟨v5, rfl, s5, hb5⟩
     obtain ⟨A5, c5, rfl, -, -⟩ := s5.mk_
     replace s5 := Lib.hid s5
     dsimp only
     go_wp2_with fail
     refine (hp1.out w5).mono ?_
     rintro e w6 ⟨v6, rfl, o6, hb6⟩
     obtain ⟨A6, c6, rfl, -, -⟩ := o6.sees.mk_
     replace o6 := Lib.hid o6
     dsimp only
     go_wp2_with fail
     refine (hp2.out w6).mono ?_
     rintro e w7 ⟨v7, rfl, o7, hb7⟩
     obtain ⟨A7', c7', rfl, -, -⟩ := o7.sees.mk_
     have hb47 := bgo (bgo hb5 hb6) hb7
     replace o7 := Lib.hid o7
     have hjn7 := Lib.hid (hjn.out w7 _ (o4.out.sees.below hb47 |>.more hb47.size))
     dsimp only
     go_wp2_with fail
     refine hjn7.out.mono ?_
     rintro e w8 ⟨v8, rfl, o8, hb8⟩
     obtain ⟨A9, c9, rfl, -, -⟩ := o8.sees.mk_
     have hb38 := bgo hb.out (bgo hb4 (bgo hb47 hb8))
     have hpd8 := Lib.hid (hpd.out w8 _ (seesB_of t2.out (Nat.le_refl _) hb38))
     replace o8 := Lib.hid o8
     dsimp only
     go_wp2_with fail
     refine hpd8.out.mono ?_
     rintro e w9 ⟨v9, rfl, o9, hb9⟩
     obtain ⟨A10, c10, rfl, -, -⟩ := o9.sees.mk_
     have hb39 := bgo hb38 hb9
     have hal9 := balloc w9 (.cells #[.slice A6 (putB 4 k).length c6, .slice A7' (putB 4 ns.length).length c7', .slice A9 PF.length c9, .slice A10 (pad4 rg).length c10, .slice A7 T.length c7] 25)
     have e6 := seesB_of o6.out.sees (Nat.le_refl _) (bgo hb7 (bgo hb8 hb9))
     have e7 := seesB_of o7.out.sees (Nat.le_refl _) (bgo hb8 hb9)
     have e8 := seesB_of o8.out.sees (Nat.le_refl _) hb9
     have eT := seesB_of sp2.out (Nat.le_refl _) hb39
     have hL := seesL_lit w9 25 (vs := [.slice A6 (putB 4 k).length c6, .slice A7' (putB 4 ns.length).length c7', .slice A9 PF.length c9, .slice A10 (pad4 rg).length c10, .slice A7 T.length c7]) (ls := [putB 4 k, putB 4 ns.length, PF, pad4 rg, T]) ⟨e6, e7, e8, o9.sees, eT, trivial⟩ (by simp [maxLen])
     have s59 := (s5.out.below (bgo (bgo (bgo (bgo hb6 hb7) hb8) hb9) hal9)).more (bgo (bgo (bgo (bgo hb6 hb7) hb8) hb9) hal9).size
     have hms := message_any _ _ _ names5 [putB 4 k, putB 4 ns.length, PF, pad4 rg, T] _ s59 hL (Nat.le_refl _) rfl (by simp [names5]) (by
      have h1 := pad4_len rg
      have h2 := putB_len 4 k
      have h3 := putB_len 4 ns.length
      simp only [names5, List.zip_cons_cons, List.zip_nil_right, dataT, List.map_cons, List.map_nil, List.flatten_cons, List.flatten_nil, List.length_append, List.length_nil]
      omega)
     rw [ansTags_zip] at hms
     have hbr := Lib.hid (bgo hb39 hal9)
     have ho9 := ho.out.below (bgo (bgo (bgo (bgo hb4 hb47) hb8) hb9) hal9)
     replace ho9 := Lib.hid ho9
     replace hms := Lib.hid hms
     clear e6 e7 e8 eT hL s59 o4 s5 o6 o7 o8 o9 hb4 hb5 hb6 hb7 hb8 hb9 hb38 hb39 hb47 hjn hjn7 hpd hpd8 hp1 hp2 hal9
     dsimp only
     go_wp2_with fail
     refine hms.out.mono ?_
     rintro e w11 ⟨v11, rfl, o11, hb11⟩
     generalize encT (ansTags k ns.length PF rg T) = AB at *
     obtain ⟨A11, c11, rfl, -, -⟩ := o11.sees.mk_
     have ho4 := ho9.out.below hb11
     have hel := Elt.of_from (v := .slice Ar k cr) o11.sees o11.from (fun q hq => (ho9.out.lt q hq).2)
     have hal := balloc w11 (.cells #[.slice A11 AB.length c11] 25)
     have hbox := Lib.hid (one_cell w11 (.slice A11 AB.length c11) 25)
     replace ho4 := Lib.hid (ho4.below hal)
     have hel4 := Lib.hid (hel.below hal)
     have hb4 := Lib.hid (bgo (bgo hbr.out hb11) hal)
     clear hal hel o11 hb11 hbr hms ho9 ho
     dsimp only
     go_wp2_with (at_builtin; refine wpList_appL (by rfl) _ _ 30 Tryz.underlying30 rfl w3.heap.size _ acc rfl ho4.out _ _ _ AB rfl hbox.out hel4.out (by have := hkl.out; omega) hb4.out.size ?_)
     intro v' w' hW2 hb5
     have hW2 := Lib.hid hW2
     have hb5 := Lib.hid (hb4.out.trans hb5)
     go_wp2_with fail
     go_roundw
     case rel => exact ⟨k + 1, by omega, by go_num, by show OwnL _ _ _ _; rw [hst.out, hab.out]; exact hW2.out, hb5⟩
     case measure => simp [intOf]; omega
   · obtain rfl : k = ns.length := by omega
     have i0 : ¬ (ns.length : Int) < (ns.length : Int) := by omega
     have b11r := b11.out.below hb.out
     have t1r := Lib.hid (seesB_of t1.out (Nat.le_refl _) hb.out)
     have ta := Lib.hid (Elt.of_old (w := wr) (v := .slice Ar ns.length cr) (seesB_of t1.out (Nat.le_refl _) (Below.refl _ _) |>.below hb.out) hb.out.size (fun q hq => (ho.out.lt q hq).1)).2
     have x6r := x6.out.below hb.out
     replace hbw := Lib.hid (bgo hbw.out hb.out)
     replace hkl := Lib.hid hkl
     obtain ⟨e0, e1, e2, -, -, -⟩ := box3_cells b11r
     obtain ⟨y0, y1, y2, f0, f1, f2⟩ := box3_cells x6r
     go_wp2_with fail
     have k := box_set3 x6r (.slice A1 rs.length k1) (.int .i64 rh) (.int .i64 rn)
     have ks := Lib.hid (sees_set3 x6r (noBL3' (NoB.s none 0 0) (NoB.i 0) (NoB.i 0)) (.slice A1 rs.length k1) (.int .i64 rh) (.int .i64 rn) t1r.out)
     have ko := Lib.hid (own_set3 x6r q6.out (NoB.s none 0 0) (NoB.i 0) (NoB.i 0) (.slice A1 rs.length k1) (.int .i64 rh) (.int .i64 rn) (NoB.s _ _ _) (NoB.i _) ho.out)
     have kb := Lib.hid (below_set3 hbw.out hg6.out (.slice A1 rs.length k1) (.int .i64 rh) (.int .i64 rn))
     clear e0 e1 e2 y0 y1 y2 f0 f1 f2 x6r b11r
     generalize ((wr.setCell ⟨g6, 0, none⟩ (.slice A1 rs.length k1)).setCell ⟨g6, 1, none⟩ (.int .i64 rh)).setCell ⟨g6, 2, none⟩ (.int .i64 rn) = W9 at *
     obtain ⟨z0, z1, z2, -, -, -⟩ := box3_cells k
     refine bodyPost_ret (v := .tuple #[.agg #[.slice A1 rs.length k1, .int .i64 rh, .int .i64 rn], .slice Ar ns.length cr, .int .i64 0]) (by simp [results, Tryz.results16, go_sem, z0, z1, z2]) rfl ?_
     exact answer_ok hr2.out ks.out ta.out ko.out hw3.out kb.out
theorem encT_mod (ts : List (Bs × Bs)) : (encT ts).length % 4 = 0 := by
 by_cases h : encC ts = 0
 · have he : encT ts = bodyT ts := by rw [encT, if_pos h]
   rw [he]
   unfold encC at h
   split at h
   · omega
   split at h
   · rename_i g1 g2
     have h4 := checkT_ok ts [] g2
     have hb := body_len ts h4 (by omega)
     have hd := (dataT_pre ts h4 (by omega) ts.length).2
     rw [List.take_of_length_le (Nat.le_refl _)] at hd
     omega
   · rename_i g2
     exact absurd h g2
 · rw [encT, if_neg h]; rfl
theorem encT_le (ts : List (Bs × Bs)) : (encT ts).length ≤ 8 * ts.length + (dataT ts).length := by
 by_cases h : encC ts = 0
 · have he : encT ts = bodyT ts := by rw [encT, if_pos h]
   rw [he]
   unfold encC at h
   split at h
   · omega
   split at h
   · rename_i g1 g2
     have h4 := checkT_ok ts [] g2
     have hb := body_len ts h4 (by omega)
     omega
   · rename_i g2
     exact absurd h g2
 · rw [encT, if_neg h]; simp
theorem part_le (ns : List Bs) (lo hi : Int) : (partG ns lo hi).length ≤ 64 := by
 have h := encT_le (rootTags ns lo hi)
 have h1 : (rootG (ns.map leafH)).length = 32 := rootG_len _ (leafs_len ns)
 have h2 := pb16 lo hi
 simp only [rootTags, dataT, List.map_cons, List.map_nil, List.flatten_cons, List.flatten_nil, List.length_append, List.length_cons, List.length_nil] at h
 unfold partG rootTags
 omega
theorem ans_le (ns : List Bs) (S part : Bs) (i : Nat) (hS : S.length ≤ 757) (hp : part.length ≤ 64) : (ansB ns S part i).length ≤ 872 + 32 * ns.length := by
 have h := encT_le (ansTags i ns.length (pathG (ns.map leafH) i).flatten S part)
 obtain ⟨p1, p2, p3⟩ := pathF_len ns i
 have h1 := pad4_len S
 have h2 := putB_len 4 i
 have h3 := putB_len 4 ns.length
 simp only [ansTags, dataT, List.map_cons, List.map_nil, List.flatten_cons, List.flatten_nil, List.length_append, List.length_cons, List.length_nil] at h
 unfold ansB ansTags
 omega
end Go.Proofs.YtjgepckncogdaaaGreat

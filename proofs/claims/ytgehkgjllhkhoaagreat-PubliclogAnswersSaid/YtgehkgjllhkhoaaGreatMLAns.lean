/- What a law leans on beyond the base: contracts, plain functions, walks. Conditions: those of each theorem. -/
import Derived.Test.YtgehkgjllhkhoaaGreatMLogK
set_option linter.unusedVariables false
set_option linter.unusedSimpArgs false
namespace Go.Proofs.YtgehkgjllhkhoaaGreat
open Go Go.RowKit
set_option linter.unusedVariables false
set_option linter.unusedSimpArgs false
attribute [local go_sem ↓] Go.wp_at_zero Go.wp_at_succ
theorem lightG_of {ls : List Bs} {m b : Nat} (h : lightG ls m b = true) : ls.length ≤ m ∧ ∀ l ∈ ls, l.length ≤ b := by
 unfold lightG at h
 rw [Bool.and_eq_true, decide_eq_true_eq, List.all_eq_true] at h
 exact ⟨h.1, fun l hl => by have := h.2 l hl; simpa using this⟩
theorem inL_len (ls : List Bs) (i : Int) (h : ls.length ≤ 64) : (inL ls i).length ≤ 1048576 := by
 unfold inL
 split
 · have := pathG_short (ls.map leafH) i.toNat
   rw [List.length_map] at this
   omega
 · simp
theorem growL_len (ls : List Bs) (i : Int) (h : ls.length ≤ 64) : (growL ls i).length ≤ 1048576 := by
 unfold growL
 split
 · have := proofG_short (ls.map leafH) i.toNat true
   rw [List.length_map] at this
   omega
 · simp
set_option maxRecDepth 100000 in
set_option maxHeartbeats 8000000 in
theorem lanswers_law (B : Nat) (u : Value) (es : List Bs) (w : World) (hu : SeesL w B u es) (hB : B ≤ w.heap.size) (i : Int) (wf1 : (Lit.int .i64 i).wf = true) (m : Int) (wf2 : (Lit.int .i64 m).wf = true) (B2 : Nat) (u2 : Value) (P : Bs) (hu2 : SeesB w B2 u2 P) (hB2 : B2 ≤ w.heap.size) :
 Calls Tryz.prog 7 #[u, .int .i64 i, .int .i64 m, u2] w fun e w' => e = .returned (.bool true) ∧ Below w.heap.size w w' := by
 obtain ⟨A, c, rfl, -, -⟩ := hu.mk_
 obtain ⟨A2, c2, rfl, -, -⟩ := hu2.mk_
 clear wf1 wf2
 have hkn := Lib.hid (fun W => lknown_any W)
 have hlg := Lib.hid (klight_any B _ es 20 60 w hu (by omega) (by omega))
 have hls := Lib.hid (fun h => lightG_of (ls := es) (m := 20) (b := 60) h)
 replace hu := Lib.hid (hu.more hB)
 replace hu2 := Lib.hid (hu2.more hB2)
 generalize lightG es 20 60 = G at *
 cases G with
 | false =>
   go_enter Tryz.func7, Tryz.ntmps7
   go_wp2_with fail
   refine hlg.out.mono ?_
   rintro e w1 ⟨rfl, hw1⟩
   obtain rfl := hw1.symm
   dsimp only
   go_wp2_with fail
   refine (hkn.out _).mono ?_
   rintro e w2 ⟨rfl, hb2⟩
   dsimp only
   go_wp2_with fail
   go_ret
   exact ⟨rfl, hb2⟩
 | true =>
 obtain ⟨hn, hl⟩ := hls.out rfl
 by_cases hp : 100 < P.length
 · have i1 : (100 : Int) < (P.length : Int) := by omega
   go_enter Tryz.func7, Tryz.ntmps7
   go_wp2_with fail
   refine hlg.out.mono ?_
   rintro e w1 ⟨rfl, hw1⟩
   obtain rfl := hw1.symm
   dsimp only
   go_wp2_with fail
   refine (hkn.out _).mono ?_
   rintro e w2 ⟨rfl, hb2⟩
   dsimp only
   go_wp2_with fail
   go_ret
   exact ⟨rfl, hb2⟩
 have i1 : ¬ (100 : Int) < (P.length : Int) := by omega
 have hhd := Lib.hid (fun W s => lhead_any es (.slice A es.length c) W s (by omega) (fun l h => by have := hl l h; omega))
 have hrh := Lib.hid (fun W s => rlhead_any es (.slice A es.length c) W s (by omega) (fun l h => by have := hl l h; omega))
 have hin := Lib.hid (fun k W s => lincl_any es (.slice A es.length c) k W s (by omega) (fun l h => by have := hl l h; omega))
 have hri := Lib.hid (fun k W s => rlincl_any es (.slice A es.length c) k W s (by omega) (fun l h => by have := hl l h; omega))
 have hgr := Lib.hid (fun k W s => lgrow_any es (.slice A es.length c) k W s (by omega) (fun l h => by have := hl l h; omega))
 have hrg := Lib.hid (fun k W s => rlgrow_any es (.slice A es.length c) k W s (by omega) (fun l h => by have := hl l h; omega))
 have hnm := Lib.hid (fun W s s2 => lnamed_any es P (.slice A es.length c) (.slice A2 P.length c2) W s s2 (by omega) (fun l h => by have := hl l h; omega))
 have hrn := Lib.hid (fun W s s2 => rlnamed_any es P (.slice A es.length c) (.slice A2 P.length c2) W s s2 (by omega) (fun l h => by have := hl l h; omega))
 have hwi := Lib.hid (fun (v : Int) W => kwithin_any v ((es.length : Int) + 2) (by omega) (by omega) W)
 have hn64 : Hid (es.length ≤ 64) := by show _ ≤ _; omega
 have mm : IntKind.i64.wrap ((es.length : Int) + 2) = (es.length : Int) + 2 := by rw [IntKind.wrap_i64]; omega
 have mw : wrap64 ((es.length : Int) + 2) = (es.length : Int) + 2 := by unfold wrap64; omega
 have hbx := balloc w (.cells #[.slice A es.length c] 63)
 have x9 := Box.new w 63 [.slice A es.length c]
 change Box (w.alloc (.cells #[.slice A es.length c] 63)) _ _ _ at x9
 have c9 := box1_cell x9
 replace hu := Lib.hid (seesL_of hu.out (Nat.le_refl _) hbx)
 replace hu2 := Lib.hid (seesB_of hu2.out (Nat.le_refl _) hbx)
 have hbw := Lib.hid hbx
 clear hbx hls hl hp
 go_enter Tryz.func7, Tryz.ntmps7
 go_wp2_with fail
 refine hlg.out.mono ?_
 rintro e w1 ⟨rfl, hw1⟩
 obtain rfl := hw1.symm
 clear hlg
 dsimp only
 go_upto_region 4 with (fail)
 generalize w.alloc (.cells #[.slice A es.length c] 63) = W0 at *
 generalize w.heap.size = g9 at x9 c9 ⊢
 go_wp2_with fail
 refine (hhd.out _ hu.out).mono ?_
 rintro e w2 ⟨v1, rfl, s1, hb⟩
 obtain ⟨A10, c10, rfl, -, -⟩ := s1.mk_
 replace s1 := Lib.hid s1
 replace hu := Lib.hid (seesL_of hu.out (Nat.le_refl _) hb)
 replace hu2 := Lib.hid (seesB_of hu2.out (Nat.le_refl _) hb)
 replace x9 := x9.below hb
 clear c9
 have c9 := box1_cell x9
 replace hbw := Lib.hid (bgo hbw.out hb)
 clear hb
 dsimp only
 go_wp2_with fail
 refine (hrh.out _ hu.out).mono ?_
 rintro e w3 ⟨v1, rfl, s2, hb⟩
 obtain ⟨A12, c12, rfl, -, -⟩ := s2.mk_
 replace s2 := Lib.hid s2
 replace hu := Lib.hid (seesL_of hu.out (Nat.le_refl _) hb)
 replace hu2 := Lib.hid (seesB_of hu2.out (Nat.le_refl _) hb)
 replace s1 := Lib.hid (seesB_of s1.out (Nat.le_refl _) hb)
 replace x9 := x9.below hb
 clear c9
 have c9 := box1_cell x9
 replace hbw := Lib.hid (bgo hbw.out hb)
 clear hb
 dsimp only
 go_upto_if 53 with (fail)
 go_cut [14, 15] (fun v14 v15 W => ∃ k n : Int, v14 = .int .i64 k ∧ v15 = .int .i64 n ∧ w3 = W)
 case first =>
  by_cases h0 : 0 < es.length
  · have i0 : (0 : Int) < (es.length : Int) := by omega
    go_wp2_with (go_at_call 12; (with_reducible refine (hwi.out _ _).mono ?_); rintro e w5 ⟨rfl, hw5⟩; obtain rfl := hw5.symm)
    go_meet
    exact ⟨_, _, rfl, rfl, rfl⟩
  · have i0 : ¬ (0 : Int) < (es.length : Int) := by omega
    go_wp2_with fail
    go_meet
    exact ⟨_, _, rfl, rfl, rfl⟩
 case rest =>
 obtain ⟨k, n, rfl, rfl, rfl⟩ := hcut
 clear hwi mm mw
 have hli := Lib.hid (inL_len es k hn64.out)
 have hlg := Lib.hid (growL_len es n hn64.out)
 have hin' := Lib.hid (hin.out k)
 have hri' := Lib.hid (hri.out k)
 have hgr' := Lib.hid (hgr.out n)
 have hrg' := Lib.hid (hrg.out n)
 generalize inC es.length k = ci at *
 generalize growC es.length n = cg at *
 generalize inL es k = li at *
 generalize growL es n = lg at *
 generalize rootG (es.map leafH) = rt at *
 clear hin hri hgr hrg
 go_wp2_with fail
 refine (hin'.out _ hu.out).mono ?_
 rintro e w4 ⟨v1, rfl, s3, hb⟩
 obtain ⟨A16, c16, rfl, -, -⟩ := s3.mk_
 replace s3 := Lib.hid s3
 replace hu := Lib.hid (seesL_of hu.out (Nat.le_refl _) hb)
 replace hu2 := Lib.hid (seesB_of hu2.out (Nat.le_refl _) hb)
 replace s1 := Lib.hid (seesB_of s1.out (Nat.le_refl _) hb)
 replace s2 := Lib.hid (seesB_of s2.out (Nat.le_refl _) hb)
 replace x9 := x9.below hb
 clear c9
 have c9 := box1_cell x9
 replace hbw := Lib.hid (bgo hbw.out hb)
 clear hb
 dsimp only
 go_wp2_with fail
 refine (hri'.out _ hu.out).mono ?_
 rintro e w5 ⟨v1, rfl, s4, hb⟩
 obtain ⟨A18, c18, rfl, -, -⟩ := s4.mk_
 replace s4 := Lib.hid s4
 replace hu := Lib.hid (seesL_of hu.out (Nat.le_refl _) hb)
 replace hu2 := Lib.hid (seesB_of hu2.out (Nat.le_refl _) hb)
 replace s1 := Lib.hid (seesB_of s1.out (Nat.le_refl _) hb)
 replace s2 := Lib.hid (seesB_of s2.out (Nat.le_refl _) hb)
 replace s3 := Lib.hid (seesL_of s3.out (Nat.le_refl _) hb)
 replace x9 := x9.below hb
 clear c9
 have c9 := box1_cell x9
 replace hbw := Lib.hid (bgo hbw.out hb)
 clear hb
 dsimp only
 go_wp2_with fail
 refine (hgr'.out _ hu.out).mono ?_
 rintro e w6 ⟨v1, rfl, s5, hb⟩
 obtain ⟨A20, c20, rfl, -, -⟩ := s5.mk_
 replace s5 := Lib.hid s5
 replace hu := Lib.hid (seesL_of hu.out (Nat.le_refl _) hb)
 replace hu2 := Lib.hid (seesB_of hu2.out (Nat.le_refl _) hb)
 replace s1 := Lib.hid (seesB_of s1.out (Nat.le_refl _) hb)
 replace s2 := Lib.hid (seesB_of s2.out (Nat.le_refl _) hb)
 replace s3 := Lib.hid (seesL_of s3.out (Nat.le_refl _) hb)
 replace s4 := Lib.hid (seesL_of s4.out (Nat.le_refl _) hb)
 replace x9 := x9.below hb
 clear c9
 have c9 := box1_cell x9
 replace hbw := Lib.hid (bgo hbw.out hb)
 clear hb
 dsimp only
 go_wp2_with fail
 refine (hrg'.out _ hu.out).mono ?_
 rintro e w7 ⟨v1, rfl, s6, hb⟩
 obtain ⟨A22, c22, rfl, -, -⟩ := s6.mk_
 replace s6 := Lib.hid s6
 replace hu := Lib.hid (seesL_of hu.out (Nat.le_refl _) hb)
 replace hu2 := Lib.hid (seesB_of hu2.out (Nat.le_refl _) hb)
 replace s1 := Lib.hid (seesB_of s1.out (Nat.le_refl _) hb)
 replace s2 := Lib.hid (seesB_of s2.out (Nat.le_refl _) hb)
 replace s3 := Lib.hid (seesL_of s3.out (Nat.le_refl _) hb)
 replace s4 := Lib.hid (seesL_of s4.out (Nat.le_refl _) hb)
 replace s5 := Lib.hid (seesL_of s5.out (Nat.le_refl _) hb)
 replace x9 := x9.below hb
 clear c9
 have c9 := box1_cell x9
 replace hbw := Lib.hid (bgo hbw.out hb)
 clear hb
 dsimp only
 go_wp2_with fail
 refine (hnm.out _ hu.out hu2.out).mono ?_
 rintro e w8 ⟨v1, is, rfl, hR, s7, hb⟩
 obtain ⟨A24, c24, rfl, -, -⟩ := s7.mk_
 replace s7 := Lib.hid s7
 replace hR := Lib.hid hR
 replace hu := Lib.hid (seesL_of hu.out (Nat.le_refl _) hb)
 replace hu2 := Lib.hid (seesB_of hu2.out (Nat.le_refl _) hb)
 replace s1 := Lib.hid (seesB_of s1.out (Nat.le_refl _) hb)
 replace s2 := Lib.hid (seesB_of s2.out (Nat.le_refl _) hb)
 replace s3 := Lib.hid (seesL_of s3.out (Nat.le_refl _) hb)
 replace s4 := Lib.hid (seesL_of s4.out (Nat.le_refl _) hb)
 replace s5 := Lib.hid (seesL_of s5.out (Nat.le_refl _) hb)
 replace s6 := Lib.hid (seesL_of s6.out (Nat.le_refl _) hb)
 replace x9 := x9.below hb
 clear c9
 have c9 := box1_cell x9
 replace hbw := Lib.hid (bgo hbw.out hb)
 clear hb
 dsimp only
 go_wp2_with fail
 refine (hrn.out _ hu.out hu2.out).mono ?_
 rintro e w9 ⟨v1, js, rfl, hR2, s8, hb⟩
 obtain rfl := hR.out.uniq hR2
 clear hR2
 obtain ⟨A26, c26, rfl, -, -⟩ := s8.mk_
 replace s8 := Lib.hid s8
 replace hu := Lib.hid (seesL_of hu.out (Nat.le_refl _) hb)
 replace hu2 := Lib.hid (seesB_of hu2.out (Nat.le_refl _) hb)
 replace s1 := Lib.hid (seesB_of s1.out (Nat.le_refl _) hb)
 replace s2 := Lib.hid (seesB_of s2.out (Nat.le_refl _) hb)
 replace s3 := Lib.hid (seesL_of s3.out (Nat.le_refl _) hb)
 replace s4 := Lib.hid (seesL_of s4.out (Nat.le_refl _) hb)
 replace s5 := Lib.hid (seesL_of s5.out (Nat.le_refl _) hb)
 replace s6 := Lib.hid (seesL_of s6.out (Nat.le_refl _) hb)
 replace s7 := Lib.hid (Sees.more (Sees.below s7.out hb) hb.size)
 replace x9 := x9.below hb
 clear c9
 have c9 := box1_cell x9
 replace hbw := Lib.hid (bgo hbw.out hb)
 clear hb
 dsimp only
 clear hin' hri' hgr' hrg' hnm hrn hhd hrh hu hu2 c9 x9
 have q1 := Lib.hid (fun W (hW : Below w9.heap.size w9 W) => (rsame_any _ _ _ _ rt rt W (seesB_of s1.out (Nat.le_refl _) hW) (seesB_of s2.out (Nat.le_refl _) hW)))
 have q2 := Lib.hid (fun W (hW : Below w9.heap.size w9 W) => rsamel_eq _ _ li W (seesL_of s3.out (Nat.le_refl _) hW) (seesL_of s4.out (Nat.le_refl _) hW) hli.out)
 have q3 := Lib.hid (fun W (hW : Below w9.heap.size w9 W) => rsamel_eq _ _ lg W (seesL_of s5.out (Nat.le_refl _) hW) (seesL_of s6.out (Nat.le_refl _) hW) hlg.out)
 have q4 := Lib.hid (fun W (hW : Below w9.heap.size w9 W) => lsameI_true _ _ is W (Sees.more (Sees.below s7.out hW) hW.size) (Sees.more (Sees.below s8.out hW) hW.size))
 rw [show (rt == rt) = true from beq_self_eq_true rt] at q1
 clear s1 s2 s3 s4 s5 s6 s7 s8 hli hlg hR hn64
 go_wp2_with fail
 refine (hkn.out _).mono ?_
 rintro e w10 ⟨rfl, hb⟩
 dsimp only
 go_wp2_with fail
 refine (q1.out _ hb).mono ?_
 rintro e w11 ⟨rfl, hw11⟩
 obtain rfl := hw11.symm
 dsimp only
 go_wp2_with fail
 refine (q2.out _ hb).mono ?_
 rintro e w12 ⟨rfl, hb2⟩
 replace hb := bgo hb hb2
 dsimp only
 go_wp2_with fail
 refine (q3.out _ hb).mono ?_
 rintro e w13 ⟨rfl, hb3⟩
 replace hb := bgo hb hb3
 dsimp only
 go_wp2_with fail
 refine (q4.out _ hb).mono ?_
 rintro e w14 ⟨rfl, hb4⟩
 replace hb := bgo hb hb4
 dsimp only
 go_wp2_with fail
 go_ret
 exact ⟨rfl, bgo hbw.out hb⟩
end Go.Proofs.YtgehkgjllhkhoaaGreat

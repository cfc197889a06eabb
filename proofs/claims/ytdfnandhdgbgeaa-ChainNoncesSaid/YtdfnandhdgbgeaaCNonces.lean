/- The walk of the statement ChainNonces: true. No conditions. -/
import Derived.Test.YtdfnandhdgbgeaaLight
namespace Go.Proofs.Ytdfnandhdgbgeaa
open Go Go.RowKit
set_option linter.unusedVariables false
attribute [local go_sem ↓] Go.wp_at_zero Go.wp_at_succ
theorem link_info : (Try.prog.info? 34).map (fun i => (i.zero, i.size, i.bytes)) = some (some (.agg #[.slice none 0 0, .slice none 0 0, .slice none 0 0]), 3, 72) := by kernel_rfl
def ansL (ls : List Bs) : List (Bs × Bs × Bs) := ls.map fun a => ([], [], a)
theorem ansL_step (ls : List Bs) (k : Nat) (hk : k < ls.length) : linkS (ansL (ls.take (k + 1))) = linkS (ansL (ls.take k)) ++ [.byt [], .byt [], .byt (ls.getD k [])] := by
  have h : ls[k]? = some (ls.getD k []) := by rw [List.getD_eq_getElem?_getD, List.getElem?_eq_getElem hk]; rfl
  rw [take_one ls k _ h]
  unfold ansL
  rw [List.map_append, linkS_append]
  rfl
theorem rsame_eq (B B' : Nat) (u v : Value) (a : Bs) (w : World) (hu : SeesB w B u a) (hv : SeesB w B' v a) : Calls Try.prog 15 #[u, v] w fun e w' => e = .returned (.bool true) ∧ w' = w := by
  refine (rsame_any B B' u v a a w hu hv).mono ?_
  rintro e w' ⟨rfl, rfl⟩
  exact ⟨ret_bool (by simp), rfl⟩
theorem three_elt {w : World} {v x y z : Value} {a b c : Bs} (h1 : EltS w v x (.byt a)) (h2 : EltS w v y (.byt b)) (h3 : EltS w v z (.byt c)) : ∀ (k : Nat) (t : Spec), [Spec.byt a, Spec.byt b, Spec.byt c][k]? = some t → ∃ q, [x, y, z][k]? = some q ∧ EltS w v q t := by
  intro k t hk
  rcases k with _ | _ | _ | k
  · simp at hk; subst hk; exact ⟨x, rfl, h1⟩
  · simp at hk; subst hk; exact ⟨y, rfl, h2⟩
  · simp at hk; subst hk; exact ⟨z, rfl, h3⟩
  · simp at hk
theorem elt_nil (w : World) (v : Value) : EltS w v (.slice none 0 0) (.byt []) := ⟨SeesB.nil _ _, fun h => absurd rfl h⟩
set_option maxRecDepth 100000 in
set_option maxHeartbeats 4000000 in
theorem cnonces_law (B : Nat) (v : Value) (l : Bs) (w : World) (hu : SeesB w B v l) (hB : B ≤ w.heap.size)
    (B2 : Nat) (v2 : Value) (l2 : Bs) (hu2 : SeesB w B2 v2 l2) (hB2 : B2 ≤ w.heap.size) (B3 : Nat) (v3 : Value) (ls : List Bs) (hu3 : SeesL w B3 v3 ls) (hB3 : B3 ≤ w.heap.size) (n : Int) (wn : (Lit.int .i64 n).wf = true) :
    Calls Try.prog 4 #[v, v2, v3, .int .i64 n] w fun e w' => e = .returned (.bool true) ∧ Below w.heap.size w w' := by
  have m1 := seesB_of hu hB (Below.refl _ _)
  have m2 := seesB_of hu2 hB2 (Below.refl _ _)
  have m3 := seesL_of hu3 hB3 (Below.refl _ _)
  have hli := Lib.hid (fun W (hW : Below w.heap.size w W) => klight_any _ _ ls 10 100 W (seesL_of hu3 hB3 hW) (by omega) (by omega))
  obtain ⟨A, c, rfl, -, -⟩ := hu.mk_
  obtain ⟨A2, c2, rfl, -, -⟩ := hu2.mk_
  obtain ⟨A3, c3, rfl, hc1, hc2⟩ := hu3.mk_
  clear hu hu2 hu3
  by_cases h1 : l.length ≤ 2100
  · have i1 : ¬ ((2100 : Int) < (l.length : Int)) := by omega
    by_cases h2 : l2.length ≤ 40
    · have i2 : ¬ ((40 : Int) < (l2.length : Int)) := by omega
      have hl0 := hli.out w (Below.refl _ _)
      cases hL : lightG ls 10 100 with
      | true =>
        rw [hL] at hl0
        replace hl0 := Lib.hid hl0
        have hn10 : ls.length ≤ 10 := by
          unfold lightG at hL
          simp at hL
          exact hL.1
        have hn100 : Hid (∀ k, k < ls.length → (ls.getD k []).length ≤ 100) := fun k hk => by
          unfold lightG at hL
          simp at hL
          rw [List.getD_eq_getElem?_getD, List.getElem?_eq_getElem hk]
          exact hL.2 _ (List.getElem_mem hk)
        replace hL := Lib.hid hL
        obtain ⟨ti, hti, htz, hts, htb⟩ := info_parts link_info
        replace hti := Lib.hid hti
        replace htz := Lib.hid htz
        replace hts := Lib.hid hts
        replace htb := Lib.hid htb
        replace m1 := Lib.hid m1
        replace m2 := Lib.hid m2
        replace m3 := Lib.hid m3
        clear hli hc1 hc2
        go_enter Try.func4, Try.ntmps4
        go_wp2_with fail
        refine hl0.out.mono ?_
        rintro e w1 ⟨rfl, rfl⟩
        clear hl0
        dsimp only
        go_wp2_with fail
        go_loopw [9, 10] (fun r t wr => ∃ k : Nat, k ≤ ls.length ∧ t = .int .i64 k ∧ Hid (OwnR wr w1.heap.size 34 r 3 k (linkS (ansL (ls.take k)))) ∧ Hid (Below w1.heap.size w1 wr)) (fun _ t _ => ls.length - (intOf t).toNat)
        case atStart => exact ⟨0, by omega, rfl, OwnR.nil _ _ _ _, Below.refl _ _⟩
        case round =>
          obtain ⟨k, hk, rfl, ho, hb⟩ := hrel
          obtain ⟨Ar, cr, rfl, -, -⟩ := ho.out.sees.mk_
          by_cases hlt : k < ls.length
          · obtain ⟨bb, o, rfl, hbB, hcell⟩ := SeesL.at_ (m3.out.below hb.out) (by omega)
            obtain ⟨A', c', x0, -, -, s0⟩ := hcell k hlt
            have hst := Lib.hid (ansL_step ls k hlt)
            have hel := Elt.of_old (v := .slice Ar k cr) s0 hb.out.size (fun j hj => (ho.out.lt j hj).1)
            generalize ls.getD k [] = a at *
            have hal := balloc wr (.cells #[.slice none 0 0, .slice none 0 0, .slice A' a.length c'] 34)
            have hrec : Hid (Sees (wr.alloc (.cells #[.slice none 0 0, .slice none 0 0, .slice A' a.length c'] 34)) (wr.heap.size + 1) (.slice (some ⟨wr.heap.size, 0, none⟩) 1 1) 3 1 [.slice none 0 0, .slice none 0 0, .slice A' a.length c']) := rec_lit wr 34 [.slice none 0 0, .slice none 0 0, .slice A' a.length c']
            have ho2 := Lib.hid (ho.out.below hal)
            have hel2 := Lib.hid (three_elt (elt_nil (wr.alloc (.cells #[.slice none 0 0, .slice none 0 0, .slice A' a.length c'] 34)) (.slice Ar k cr)) (elt_nil (wr.alloc (.cells #[.slice none 0 0, .slice none 0 0, .slice A' a.length c'] 34)) (.slice Ar k cr)) (Elt.below hel hal : EltS _ _ _ (.byt a)))
            have hb3 := Lib.hid (bgo hb.out hal)
            have j0 : (k : Int) < (ls.length : Int) := by omega
            clear hal hel s0 hcell ho hb
            go_wp2_with (at_builtin; refine wpList_appR (by rfl) _ _ 32 34 Try.underlying32 rfl ti _ 3 72 hti.out htz.out hts.out htb.out rfl (by omega) (by omega) w1.heap.size _ k _ rfl ho2.out _ _ 1 _ [.byt [], .byt [], .byt a] rfl hrec.out rfl hel2.out (by omega) hb3.out.size ?_)
            intro v' w' hW2 hb4
            have hW2 := Lib.hid hW2
            have hb4 := Lib.hid (hb3.out.trans hb4)
            go_wp2_with fail
            go_roundw
            case rel => exact ⟨k + 1, by omega, by go_num, by rw [hst.out]; exact hW2.out, hb4⟩
            case measure => simp [intOf]; omega
          · have hk9 : k = ls.length := by omega
            subst hk9
            have j0 : ¬ (ls.length : Int) < (ls.length : Int) := by omega
            rw [List.take_of_length_le (Nat.le_refl _)] at ho
            have hoL : Hid (SeesR wr wr.heap.size (.slice Ar ls.length cr) 3 (ansL ls).length (linkS (ansL ls))) := by
              have h9 := ho.out.sees
              have hl9 : (ansL ls).length = ls.length := by simp [ansL]
              show SeesR _ _ _ _ _ _
              rw [hl9]
              exact h9
            obtain ⟨w5, hw5⟩ : ∃ w5 : World, w5 = wr := ⟨_, rfl⟩
            have hb5 := hb
            have hL5 := hoL
            rw [← hw5] at hb5 hL5
            replace hw5 := Lib.hid hw5
            have hkr : Calls Try.prog 10 #[.int .i64 n, .int .i64 32] w5 (Shows (randK n 32) w5) := krandom_any n 32 (by omega) w5
            have hl3 : (ansL ls).length = ls.length := by simp [ansL]
            rw [hl3] at hL5
            replace hkr := Lib.hid hkr
            clear ho hoL hb
            go_wp2_with fail
            rw [← hw5.out]
            refine hkr.out.mono ?_
            rintro e w6 ⟨vr, rfl, hr, hb6, -⟩
            clear hkr hw5
            generalize randK n 32 = rb at *
            obtain ⟨Ax, cx, rfl, -, -⟩ := hr.mk_
            have hal := balloc w6 (.cells #[.slice A2 l2.length c2, .slice Ax rb.length cx] 22)
            have hx := Box.new w6 22 [.slice A2 l2.length c2, .slice Ax rb.length cx]
            change Box (w6.alloc (.cells #[.slice A2 l2.length c2, .slice Ax rb.length cx] 22)) _ _ _ at hx
            have hbw := bgo (bgo hb5.out hb6) hal
            have hL7 : SeesR (w6.alloc (.cells #[.slice A2 l2.length c2, .slice Ax rb.length cx] 22)) (w6.alloc (.cells #[.slice A2 l2.length c2, .slice Ax rb.length cx] 22)).heap.size (.slice Ar ls.length cr) 3 ls.length (linkS (ansL ls)) := ((SeesR.below hL5.out (bgo hb6 hal)).more (bgo hb6 hal).size)
            have hr7 := seesB_of hr (Nat.le_refl _) hal
            have h17 := seesB_of m1.out (Nat.le_refl _) hbw
            have h27 := seesB_of m2.out (Nat.le_refl _) hbw
            replace hx := Lib.hid hx
            replace hbw := Lib.hid hbw
            replace hL7 := Lib.hid hL7
            replace hr7 := Lib.hid hr7
            replace h17 := Lib.hid h17
            replace h27 := Lib.hid h27
            clear hal hr hb6 hb5 hL5 m1 m2 m3 hl3
            dsimp only
            go_wp2_with fail
            generalize w6.alloc (.cells #[.slice A2 l2.length c2, .slice Ax rb.length cx] 22) = W7 at *
            generalize w6.heap.size = G at *
            go_loopw [54] (fun t wr => ∃ k : Nat, k ≤ 2 ∧ t = .int .i64 k ∧ Hid (Below W7.heap.size W7 wr)) (fun t _ => 2 - (intOf t).toNat)
            case atStart => exact ⟨0, by omega, rfl, Below.refl _ _⟩
            case round =>
              obtain ⟨k, hk, rfl, hb⟩ := hrel
              by_cases hlt : k < 2
              · have hcell : ∃ (Ay : Option Addr) (cy : Nat) (y : Bs), wr.cell? ⟨G, k, none⟩ = some (.slice Ay y.length cy) ∧ (∀ W, Below wr.heap.size wr W → SeesB W W.heap.size (.slice Ay y.length cy) y) := by
                  have hxr := hx.out.below hb.out
                  rcases (by omega : k = 0 ∨ k = 1) with rfl | rfl
                  · exact ⟨A2, c2, l2, hxr.cell 0, fun W hW => seesB_of h27.out (Nat.le_refl _) (bgo hb.out hW)⟩
                  · exact ⟨Ax, cx, rb, hxr.cell 1, fun W hW => seesB_of hr7.out (Nat.le_refl _) (bgo hb.out hW)⟩
                obtain ⟨Ay, cy, y, x0, hy⟩ := hcell
                have q1 := Lib.hid (fun W (hW : Below wr.heap.size wr W) => nonce_any W.heap.size W.heap.size _ _ l y W (seesB_of h17.out (Nat.le_refl _) (bgo hb.out hW)) (Nat.le_refl _) (hy W hW) (Nat.le_refl _))
                have q2 := Lib.hid (fun W (hW : Below wr.heap.size wr W) => rnonce_any W.heap.size W.heap.size _ _ l y W (seesB_of h17.out (Nat.le_refl _) (bgo hb.out hW)) (Nat.le_refl _) (hy W hW) (Nat.le_refl _))
                have hlr : Hid (∀ W, Below wr.heap.size wr W → SeesR W W.heap.size (.slice Ar ls.length cr) 3 (ansL ls).length (linkS (ansL ls))) := fun W hW => by
                  have h9 := (hL7.out.below (bgo hb.out hW)).more (bgo hb.out hW).size
                  rw [show (ansL ls).length = ls.length by simp [ansL]]
                  exact h9
                have q3 := Lib.hid (fun W (hW : Below wr.heap.size wr W) => next_any W.heap.size W.heap.size _ _ (ansL ls) y W (hlr.out W hW) (Nat.le_refl _) (hy W hW) (Nat.le_refl _))
                have q4 := Lib.hid (fun W (hW : Below wr.heap.size wr W) => rnext_any W.heap.size W.heap.size _ _ (ansL ls) y W (hlr.out W hW) (Nat.le_refl _) (hy W hW) (Nat.le_refl _))
                unfold NonP at q1 q2
                unfold NextP at q3 q4
                generalize nonceC l y = C1 at *
                generalize nonceG l y = G1 at *
                generalize nextC (ansL ls) y = C2 at *
                generalize nextG (ansL ls) y = G2 at *
                have i5 : (0 : Int) ≤ (k : Int) := by omega
                have i6 : (k : Int) < 2 := by omega
                clear hy hlr
                go_wp2_with fail
                refine (q1.out wr (Below.refl _ _)).mono ?_
                rintro e a1 ⟨z1, rfl, f1, g1⟩
                have s1 := f1.sees
                obtain ⟨Z1, d1, rfl, -, -⟩ := f1.sees.mk_
                clear f1 q1 x0
                dsimp only
                go_wp2_with fail
                refine (q2.out a1 g1).mono ?_
                rintro e a2 ⟨z2, rfl, f2, g2⟩
                have s2 := f2.sees
                obtain ⟨Z2, d2, rfl, -, -⟩ := f2.sees.mk_
                have t1 := seesB_of s1 (Nat.le_refl _) g2
                replace g2 := bgo g1 g2
                clear f2 q2 s1 g1
                dsimp only
                go_wp2_with fail
                refine (q3.out a2 g2).mono ?_
                rintro e a3 ⟨z3, rfl, f3, g3⟩
                have s3 := f3.sees
                obtain ⟨Z3, d3, rfl, -, -⟩ := f3.sees.mk_
                have t1' := seesB_of t1 (Nat.le_refl _) g3
                have t2 := seesB_of s2 (Nat.le_refl _) g3
                replace g3 := bgo g2 g3
                clear f3 q3 s2 t1 g2
                dsimp only
                go_wp2_with fail
                refine (q4.out a3 g3).mono ?_
                rintro e a4 ⟨z4, rfl, f4, g4⟩
                have s4 := f4.sees
                obtain ⟨Z4, d4, rfl, -, -⟩ := f4.sees.mk_
                have w1' := rsame_eq _ _ _ _ _ a4 (seesB_of t1' (Nat.le_refl _) g4) (seesB_of t2 (Nat.le_refl _) g4)
                have w2' := rsame_eq _ _ _ _ _ a4 (seesB_of s3 (Nat.le_refl _) g4) s4
                replace g4 := bgo g3 g4
                have hbf := Lib.hid (bgo hb.out g4)
                replace w1' := Lib.hid w1'
                replace w2' := Lib.hid w2'
                clear f4 q4 s3 s4 t1' t2 g3 hb
                dsimp only
                go_wp2_with fail
                refine w1'.out.mono ?_
                rintro e w' ⟨rfl, rfl⟩
                dsimp only
                go_wp2_with fail
                refine w2'.out.mono ?_
                rintro e w'' ⟨rfl, rfl⟩
                dsimp only
                go_wp2_with fail
                go_roundw
                case rel => exact ⟨k + 1, by omega, by go_num, hbf⟩
                case measure => simp [intOf]; omega
              · have hk9 : k = 2 := by omega
                subst hk9
                go_wp2_with fail
                refine (cknown_any _).mono ?_
                rintro e w9 ⟨rfl, hb9⟩
                dsimp only
                go_wp2_with fail
                go_ret
                exact ⟨rfl, bgo (bgo hbw.out hb.out) hb9⟩
      | false =>
        rw [hL] at hl0
        replace hl0 := Lib.hid hl0
        clear hli hc1 hc2 hL m1 m2 m3
        go_enter Try.func4, Try.ntmps4
        go_wp2_with fail
        refine hl0.out.mono ?_
        rintro e w1 ⟨rfl, rfl⟩
        dsimp only
        go_wp2_with fail
        refine (cknown_any _).mono ?_
        rintro e w2 ⟨rfl, hb2⟩
        dsimp only
        go_wp2_with fail
        go_ret
        exact ⟨rfl, hb2⟩
    · have i2 : (40 : Int) < (l2.length : Int) := by omega
      clear hli hc1 hc2 m1 m2 m3
      go_enter Try.func4, Try.ntmps4
      go_wp2_with fail
      refine (cknown_any _).mono ?_
      rintro e w1 ⟨rfl, hb1⟩
      dsimp only
      go_wp2_with fail
      go_ret
      exact ⟨rfl, hb1⟩
  · have i1 : (2100 : Int) < (l.length : Int) := by omega
    clear hli hc1 hc2 m1 m2 m3
    go_enter Try.func4, Try.ntmps4
    go_wp2_with fail
    refine (cknown_any _).mono ?_
    rintro e w1 ⟨rfl, hb1⟩
    dsimp only
    go_wp2_with fail
    go_ret
    exact ⟨rfl, hb1⟩
end Go.Proofs.Ytdfnandhdgbgeaa

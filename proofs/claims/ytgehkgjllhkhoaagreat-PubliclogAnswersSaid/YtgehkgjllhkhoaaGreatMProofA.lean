/- What a law leans on beyond the base: contracts, plain functions, walks. Conditions: those of each theorem. -/
import Derived.Test.YtgehkgjllhkhoaaGreatMC1
import Derived.Test.YtgehkgjllhkhoaaGreatH29
set_option linter.unusedVariables false
set_option linter.unusedSimpArgs false
namespace Go.Proofs.YtgehkgjllhkhoaaGreat
open Go Go.RowKit
set_option linter.unusedVariables false
set_option linter.unusedSimpArgs false
attribute [local go_sem ↓] Go.wp_at_zero Go.wp_at_succ
def proofG (hs : List Bs) (m : Nat) (known : Bool) : List Bs :=
 if m = hs.length then (if known then [] else [rootG hs])
 else if h : 2 ≤ hs.length then
  if m ≤ splitN hs.length then proofG (hs.take (splitN hs.length)) m known ++ [rootG (hs.drop (splitN hs.length))]
  else proofG (hs.drop (splitN hs.length)) (m - splitN hs.length) false ++ [rootG (hs.take (splitN hs.length))]
 else []
termination_by hs.length
decreasing_by
 · have := splitN_lt hs.length h; rw [List.length_take]; omega
 · have := splitN_lt hs.length h; rw [List.length_drop]; omega
theorem proofG_full (hs : List Bs) (m : Nat) (h : m = hs.length) (b : Bool) : proofG hs m b = if b then [] else [rootG hs] := by rw [proofG, if_pos h]
theorem proofG_left (hs : List Bs) (m : Nat) (b : Bool) (h : 2 ≤ hs.length) (hm : m ≠ hs.length) (hi : m ≤ splitN hs.length) : proofG hs m b = proofG (hs.take (splitN hs.length)) m b ++ [rootG (hs.drop (splitN hs.length))] := by rw [proofG, if_neg hm, dif_pos h, if_pos hi]
theorem proofG_right (hs : List Bs) (m : Nat) (b : Bool) (h : 2 ≤ hs.length) (hm : m ≠ hs.length) (hi : ¬ m ≤ splitN hs.length) : proofG hs m b = proofG (hs.drop (splitN hs.length)) (m - splitN hs.length) false ++ [rootG (hs.take (splitN hs.length))] := by rw [proofG, if_neg hm, dif_pos h, if_neg hi]
theorem proofG_short (hs : List Bs) (m : Nat) (b : Bool) : (proofG hs m b).length ≤ hs.length + 1 := by
 have : ∀ (n : Nat) (hs : List Bs) (m : Nat) (b : Bool), hs.length ≤ n → (proofG hs m b).length ≤ hs.length + 1 := by
  intro n
  induction n with
  | zero =>
    intro hs m b hn
    rw [proofG]
    split
    · split <;> simp
    · rw [dif_neg (by omega)]; simp
  | succ n ih =>
    intro hs m b hn
    by_cases hf : m = hs.length
    · rw [proofG_full _ _ hf]; split <;> simp
    · by_cases h2 : 2 ≤ hs.length
      · have hsp := splitN_lt hs.length h2
        by_cases hi : m ≤ splitN hs.length
        · rw [proofG_left _ _ _ h2 hf hi, List.length_append]
          have := ih (hs.take (splitN hs.length)) m b (by rw [List.length_take]; omega)
          rw [List.length_take] at this
          simp only [List.length_cons, List.length_nil]
          omega
        · rw [proofG_right _ _ _ h2 hf hi, List.length_append]
          have := ih (hs.drop (splitN hs.length)) (m - splitN hs.length) false (by rw [List.length_drop]; omega)
          rw [List.length_drop] at this
          simp only [List.length_cons, List.length_nil]
          omega
      · rw [proofG, if_neg hf, dif_neg h2]; simp
 exact this hs.length hs m b (Nat.le_refl _)
theorem OwnL.one {w : World} {v : Value} {R : Bs} (h : SeesB w w.heap.size v R) : OwnL (w.alloc (.cells #[v] 34)) w.heap.size (.slice (some ⟨w.heap.size, 0, none⟩) 1 1) [R] := by
 refine ⟨[v], World.ownsRow_lit (base := w.heap.size) (size := 1) w #[v] 1 (Nat.le_refl _) (by decide) (by simp), fun k hk => ?_⟩
 have : k = 0 := by simp at hk; omega
 subst this
 exact ⟨v, rfl, Elt.of_old (B := w.heap.size) (h.below (balloc w _)) (balloc w _).size (fun k hk => by cases hk; exact Nat.le_refl _)⟩
set_option maxRecDepth 100000 in
theorem proof_any (m : Nat) : ∀ (ls : List Bs) (i : Nat) (kn : Bool) (B : Nat) (u : Value) (w : World), ls.length ≤ m → 1 ≤ i → i ≤ ls.length → SeesL w B u ls → B ≤ w.heap.size → ls.length ≤ 1024 → (∀ l ∈ ls, l.length = 32) →
 Calls Tryz.prog 166 #[u, .int .i64 (i : Int), .bool kn] w (GivesL (proofG ls i kn) w) := by
 induction m with
 | zero => intro ls i kn B u w hm hi hi2; omega
 | succ m ih =>
   intro ls i kn B u w hm hi hi2 hu hB hn hl
   by_cases h0 : ls.length ≤ m
   · exact ih ls i kn B u w h0 hi hi2 hu hB hn hl
   · have hlen : ls.length = m + 1 := by omega
     by_cases hfull : i ≠ ls.length
     · have h2 : 2 ≤ ls.length := by omega
       obtain ⟨A, c, rfl, hc1, hc2⟩ := hu.mk_
       obtain ⟨k1, k2, k3⟩ := splitN_lt ls.length h2
       have hdv := divide_any A ls.length c w h2 hn hc1 hc2
       unfold DividePost at hdv
       have p1 := Lib.hid (fun h => proofG_left ls i kn h2 hfull h)
       have p2 := Lib.hid (fun h => proofG_right ls i kn h2 hfull h)
       generalize splitN ls.length = k at *
       obtain ⟨b, o, rfl, hbB, -⟩ := hu.at_ (by omega)
       have c1 := SeesL.cut (a := 0) (b := k) hu (by omega) (by omega)
       have c2 := SeesL.cut (a := k) (b := ls.length) hu (by omega) (Nat.le_refl _)
       rw [cutA_zero, Nat.sub_zero, Nat.sub_zero, List.drop_zero] at c1
       rw [List.take_of_length_le (by rw [List.length_drop]; omega)] at c2
       generalize cutA (some ⟨b, o, none⟩) c k 1 = A2 at hdv c2
       have l1 : ∀ x ∈ ls.take k, x.length = 32 := fun x hx => hl x (List.mem_of_mem_take hx)
       have l2 : ∀ x ∈ ls.drop k, x.length = 32 := fun x hx => hl x (List.mem_of_mem_drop hx)
       have n1 : (ls.take k).length = k := by rw [List.length_take]; omega
       have n2 : (ls.drop k).length = ls.length - k := by rw [List.length_drop]
       have q1 := Lib.hid (rootG_len _ l1)
       have q2 := Lib.hid (rootG_len _ l2)
       replace hdv := Lib.hid hdv
       have hlm := Lib.hid hlen
       have hplen : ∀ j b, Hid ((proofG (ls.take k) j b).length ≤ 2048 ∧ (proofG (ls.drop k) j b).length ≤ 2048) := fun j b => ⟨Nat.le_trans (proofG_short _ _ _) (by omega), Nat.le_trans (proofG_short _ _ _) (by omega)⟩
       have j4 : ¬ ((i : Int) = (ls.length : Int)) := by omega
       have j5 : ((i : Int) == (ls.length : Int)) = false := by rw [beq_eq_false_iff_ne]; omega
       by_cases hk : i ≤ k
       · have g1 := Lib.hid (fun q => ih (ls.take k) i kn B _ (w.drewN q) (by omega) hi (by omega) (SeesL.below c1 (below_drewN (Below.refl B w) q)) hB (by omega) l1)
         have g2 := Lib.hid (fun (W : World) (hbW : Below w.heap.size w W) => root_any _ (ls.drop k) B _ W (Nat.le_refl _) (SeesL.below c2 (hbW.mono hB)) (Nat.le_trans hB hbW.size) (by omega) l2)
         have i0 : (i : Int) ≤ (k : Int) := by omega
         replace p1 := Lib.hid (p1.out hk)
         have hp := Lib.hid (hplen i kn).out.1
         clear ih c1 c2 hu hlen hl l1 l2 n1 n2 p2 hplen
         generalize proofG (ls.take k) i kn = P at *
         generalize rootG (ls.drop k) = R at *
         generalize rootG (ls.take k) = R' at *
         go_enter Tryz.func166, Tryz.ntmps166
         go_wp2_with fail
         refine hdv.out.mono ?_
         rintro e w0 ⟨rfl, q, rfl⟩
         dsimp only
         go_wp2_with fail
         refine (g1.out q).mono ?_
         rintro e w1 ⟨v1, rfl, h1, hb1⟩
         have hb1' : Below w.heap.size w w1 := (below_drewN (Below.refl _ _) q).trans hb1
         dsimp only
         go_wp2_with fail
         refine (g2.out w1 hb1').mono ?_
         rintro e w2 ⟨v2, rfl, h2', hb2⟩
         have hw2 := bgo hb1' hb2
         have ho2 := h1.below hb2
         have hel := Elt.of_from (v := v1) h2'.sees h2'.from (fun k hk => (h1.lt k hk).2)
         have hal := balloc w2 (.cells #[v2] 34)
         have hcell := Lib.hid (one_cell w2 v2 34)
         obtain ⟨A9, c9, rfl, -, -⟩ := h2'.sees.mk_
         obtain ⟨A8, c8, rfl⟩ := h1.shape
         replace ho2 := Lib.hid (ho2.below hal)
         replace hel := Lib.hid (hel.below hal)
         have hb3 := Lib.hid (bgo hw2 hal)
         clear hb2 hb1 hb1' hw2 h1 h2' hal g1 g2
         dsimp only
         go_wp2_with (at_builtin; refine wpList_appL (by rfl) _ _ 52 Tryz.underlying52 rfl w.heap.size _ P rfl ho2.out _ _ _ R rfl hcell.out hel.out (by have := hp.out; omega) hb3.out.size ?_)
         intro v' w' hW2 hb4
         have hW2 := Lib.hid hW2
         have hb4 := Lib.hid hb4
         go_wp2_with fail
         go_ret
         exact ⟨_, rfl, by rw [p1.out]; exact hW2.out, hb3.out.trans hb4.out⟩
       · have g1 := Lib.hid (fun q => ih (ls.drop k) (i - k) false B _ (w.drewN q) (by omega) (by omega) (by omega) (SeesL.below c2 (below_drewN (Below.refl B w) q)) hB (by omega) l2)
         have g2 := Lib.hid (fun (W : World) (hbW : Below w.heap.size w W) => root_any _ (ls.take k) B _ W (Nat.le_refl _) (SeesL.below c1 (hbW.mono hB)) (Nat.le_trans hB hbW.size) (by omega) l1)
         have i0 : ¬ ((i : Int) ≤ (k : Int)) := by omega
         have i1 : (k : Int) ≤ (i : Int) := by omega
         have i2 : Hid (((i - k : Nat) : Int) = (i : Int) - (k : Int)) := by show _ = _; omega
         rw [i2.out] at g1
         replace p2 := Lib.hid (p2.out hk)
         have hp := Lib.hid (hplen (i - k) false).out.2
         clear ih c1 c2 hu hlen hl l1 l2 n1 n2 p1 hplen
         generalize proofG (ls.drop k) (i - k) false = P at *
         generalize rootG (ls.drop k) = R' at *
         generalize rootG (ls.take k) = R at *
         go_enter Tryz.func166, Tryz.ntmps166
         go_wp2_with fail
         refine hdv.out.mono ?_
         rintro e w0 ⟨rfl, q, rfl⟩
         dsimp only
         go_wp2_with fail
         refine (g1.out q).mono ?_
         rintro e w1 ⟨v1, rfl, h1, hb1⟩
         have hb1' : Below w.heap.size w w1 := (below_drewN (Below.refl _ _) q).trans hb1
         dsimp only
         go_wp2_with fail
         refine (g2.out w1 hb1').mono ?_
         rintro e w2 ⟨v2, rfl, h2', hb2⟩
         have hw2 := bgo hb1' hb2
         have ho2 := h1.below hb2
         have hel := Elt.of_from (v := v1) h2'.sees h2'.from (fun k hk => (h1.lt k hk).2)
         have hal := balloc w2 (.cells #[v2] 34)
         have hcell := Lib.hid (one_cell w2 v2 34)
         obtain ⟨A9, c9, rfl, -, -⟩ := h2'.sees.mk_
         obtain ⟨A8, c8, rfl⟩ := h1.shape
         replace ho2 := Lib.hid (ho2.below hal)
         replace hel := Lib.hid (hel.below hal)
         have hb3 := Lib.hid (bgo hw2 hal)
         clear hb2 hb1 hb1' hw2 h1 h2' hal g1 g2
         dsimp only
         go_wp2_with (at_builtin; refine wpList_appL (by rfl) _ _ 52 Tryz.underlying52 rfl w.heap.size _ P rfl ho2.out _ _ _ R rfl hcell.out hel.out (by have := hp.out; omega) hb3.out.size ?_)
         intro v' w' hW2 hb4
         have hW2 := Lib.hid hW2
         have hb4 := Lib.hid hb4
         go_wp2_with fail
         go_ret
         exact ⟨_, rfl, by rw [p2.out]; exact hW2.out, hb3.out.trans hb4.out⟩
     · have hf : i = ls.length := by omega
       have hp := proofG_full ls i hf kn
       obtain ⟨A, c, rfl, hc1, hc2⟩ := hu.mk_
       have hrt := Lib.hid (root_any _ ls B _ w (Nat.le_refl _) hu hB (by omega) hl)
       rw [hp]
       have j4 : (i : Int) = (ls.length : Int) := by omega
       rw [j4]
       clear hu ih hl hp hf j4 hfull hlen hi hi2 hm h0
       generalize rootG ls = R at *
       generalize ls.length = N at *
       go_enter Tryz.func166, Tryz.ntmps166
       cases kn with
       | true =>
         go_wp2_with fail
         go_ret
         exact ⟨_, rfl, OwnL.nil _ _, Below.refl _ _⟩
       | false =>
         go_wp2_with fail
         refine hrt.out.mono ?_
         rintro e w1 ⟨v1, rfl, h1, hb1⟩
         have hs1 := h1.sees
         obtain ⟨A9, c9, rfl, -, -⟩ := h1.sees.mk_
         have ho := OwnL.one hs1
         have hb2 := bgo hb1 (balloc w1 (.cells #[.slice A9 R.length c9] 34))
         have ho2 := ho.mono hb1.size
         clear ho hs1 h1 hrt
         dsimp only
         go_wp2_with fail
         go_ret
         exact ⟨_, rfl, ho2, hb2⟩
def ProofPost (hs : List Bs) (i : Nat) (w : World) (e : Ending) (w' : World) : Prop :=
 ∃ v, e = .returned (.tuple #[v, .int .i64 0]) ∧ OwnL w' w.heap.size v (proofG hs i true) ∧ Below w.heap.size w w'
theorem consistency_top (ls : List Bs) (i : Nat) (B : Nat) (u : Value) (w : World) (hu : SeesL w B u ls) (hi1 : 1 ≤ i) (hi : i ≤ ls.length) (hB : B ≤ w.heap.size) (hn : ls.length ≤ 1024) (hl : ∀ l ∈ ls, l.length ≤ 1048576) :
 Calls Tryz.prog 98 #[u, .int .i64 (i : Int)] w (ProofPost (ls.map leafH) i w) := by
 have hs := Lib.hid (of_any ls B u w hu hB hn hl)
 obtain ⟨A, c, rfl, hc1, hc2⟩ := hu.mk_
 have j0 : ¬ ((1024 : Int) < (ls.length : Int)) := by omega
 have j1 : ¬ ((i : Int) < 1) := by omega
 have j2 : ¬ ((ls.length : Int) < (i : Int)) := by omega
 clear hu hl
 go_enter Tryz.func98, Tryz.ntmps98
 go_wp2_with fail
 refine hs.out.mono ?_
 rintro e w1 ⟨v, rfl, h1, hb1⟩
 dsimp only
 go_wp2_with fail
 refine (proof_any _ _ i true _ _ _ (Nat.le_refl _) hi1 (by rw [List.length_map]; exact hi) h1 (Nat.le_refl _) (by rw [List.length_map]; exact hn) (leafs_len ls)).mono ?_
 rintro e w2 ⟨v2, rfl, h2, hb2⟩
 dsimp only
 go_wp2_with fail
 go_returns
 exact ⟨v2, rfl, h2.mono hb1.size, bgo hb1 hb2⟩
set_option maxRecDepth 100000 in
theorem rproof_any (m : Nat) : ∀ (ls : List Bs) (i : Nat) (kn : Bool) (B : Nat) (u : Value) (w : World), ls.length ≤ m → 1 ≤ i → i ≤ ls.length → SeesL w B u ls → B ≤ w.heap.size → ls.length ≤ 1024 → (∀ l ∈ ls, l.length ≤ 1048576) →
 Calls Tryz.prog 167 #[.int .i64 (i : Int), u, .bool kn] w (GivesL (proofG (ls.map leafH) i kn) w) := by
 induction m with
 | zero => intro ls i kn B u w hm hi hi2; omega
 | succ m ih =>
   intro ls i kn B u w hm hi hi2 hu hB hn hl
   by_cases h0 : ls.length ≤ m
   · exact ih ls i kn B u w h0 hi hi2 hu hB hn hl
   · have hlen : ls.length = m + 1 := by omega
     by_cases hfull : i ≠ ls.length
     · have h2 : 2 ≤ ls.length := by omega
       have hfm : i ≠ (ls.map leafH).length := by rw [List.length_map]; exact hfull
       obtain ⟨A, c, rfl, hc1, hc2⟩ := hu.mk_
       obtain ⟨k1, k2, k3⟩ := splitN_lt ls.length h2
       have hsp := Lib.hid (split_any ls.length w h2 (by omega))
       have p1 := fun h => proofG_left (ls.map leafH) i kn (by rw [List.length_map]; exact h2) hfm h
       have p2 := fun h => proofG_right (ls.map leafH) i kn (by rw [List.length_map]; exact h2) hfm h
       rw [List.length_map, ← List.map_take, ← List.map_drop] at p1 p2
       replace p1 := Lib.hid p1
       replace p2 := Lib.hid p2
       generalize splitN ls.length = k at *
       obtain ⟨b, o, rfl, hbB, -⟩ := hu.at_ (by omega)
       have c1 := SeesL.cut (a := 0) (b := k) hu (by omega) (by omega)
       have c2 := SeesL.cut (a := k) (b := ls.length) hu (by omega) (Nat.le_refl _)
       rw [cutA_zero, Nat.sub_zero, Nat.sub_zero, List.drop_zero] at c1
       rw [List.take_of_length_le (by rw [List.length_drop]; omega)] at c2
       have r2 := run_cut_from (P := Tryz.prog) 52 Tryz.underlying52 1 slice_size (some ⟨b, o, none⟩) ls.length c .i64 (k : Int) (by omega) (by omega)
       rw [Int.toNat_natCast] at r2
       generalize cutA (some ⟨b, o, none⟩) c k 1 = A2 at r2 c2
       have l1 : ∀ x ∈ ls.take k, x.length ≤ 1048576 := fun x hx => hl x (List.mem_of_mem_take hx)
       have l2 : ∀ x ∈ ls.drop k, x.length ≤ 1048576 := fun x hx => hl x (List.mem_of_mem_drop hx)
       have n1 : (ls.take k).length = k := by rw [List.length_take]; omega
       have n2 : (ls.drop k).length = ls.length - k := by rw [List.length_drop]
       have q1 := Lib.hid (rootG_len _ (leafs_len (ls.take k)))
       have q2 := Lib.hid (rootG_len _ (leafs_len (ls.drop k)))
       have hlm := Lib.hid hlen
       have hplen : ∀ j b, Hid ((proofG ((ls.take k).map leafH) j b).length ≤ 2048 ∧ (proofG ((ls.drop k).map leafH) j b).length ≤ 2048) := fun j b => ⟨Nat.le_trans (proofG_short _ _ _) (by rw [List.length_map]; omega), Nat.le_trans (proofG_short _ _ _) (by rw [List.length_map]; omega)⟩
       have j4 : ¬ ((i : Int) = (ls.length : Int)) := by omega
       have j0 : (0 : Int) ≤ (k : Int) := by omega
       have j1 : (k : Int) ≤ (c : Int) := by omega
       have j2 : (k : Int) ≤ (ls.length : Int) := by omega
       by_cases hk : i ≤ k
       · have g1 := Lib.hid (ih (ls.take k) i kn B _ w.drew (by omega) hi (by omega) (SeesL.below c1 (Below.refl B w).drew) hB (by omega) l1)
         have g2 := Lib.hid (fun (W : World) (hbW : Below w.heap.size w W) => rroot_any _ (ls.drop k) B _ W (Nat.le_refl _) (SeesL.below c2 (hbW.mono hB)) (Nat.le_trans hB hbW.size) (by omega) l2)
         have i0 : (i : Int) ≤ (k : Int) := by omega
         replace p1 := Lib.hid (p1.out hk)
         have hp := Lib.hid (hplen i kn).out.1
         clear ih c1 c2 hu hlen hl l1 l2 n1 n2 p2 hplen
         generalize proofG ((ls.take k).map leafH) i kn = P at *
         generalize rootG ((ls.drop k).map leafH) = R at *
         generalize rootG ((ls.take k).map leafH) = R' at *
         go_enter Tryz.func167, Tryz.ntmps167
         go_wp2_with fail
         refine hsp.out.mono ?_
         rintro e w0 ⟨rfl, rfl⟩
         dsimp only
         go_wp2_with fail
         go_region_held3 (fun W' : World => True) (trivial)
          (first
           | (refine step_appL (by rfl) _ _ 52 Tryz.underlying52 (by rfl) w0.heap.size _ P (by rfl) ho2.out _ _ _ R (by rfl) hcell.out hel.out (by have := hp.out; omega) hb3.out.size ?_; intro v' w' hW2 hb4)
           | (go_at_call 164; refine (g2.out _ (bgo (bdrew _) hb1)).mono ?_; rintro e w2 ⟨v2, rfl, h2', hb2⟩; obtain ⟨A9, c9, rfl, -, -⟩ := h2'.sees.mk_
              have hw2 := bgo (bgo (bdrew _) hb1) hb2
              have hel := Elt.of_from (v := .slice A8 P.length c8) h2'.sees h2'.from (fun k hk => (h1.lt k hk).2)
              have hcell := Lib.hid (one_cell w2 (.slice A9 R.length c9) 34)
              have ho2 := Lib.hid ((h1.below hb2).below (balloc w2 (.cells #[.slice A9 R.length c9] 34)))
              replace hel := Lib.hid (hel.below (balloc w2 (.cells #[.slice A9 R.length c9] 34)))
              have hb3 := Lib.hid (bgo hw2 (balloc w2 (.cells #[.slice A9 R.length c9] 34)))
              clear hb2 hw2 h2')
           | (go_at_call 167; refine g1.out.mono ?_; rintro e w1 ⟨v1, rfl, h1, hb1⟩; obtain ⟨A8, c8, rfl⟩ := h1.shape))
         all_goals
          go_wp2_with fail
          go_ret
          exact ⟨v', rfl, by rw [p1.out]; exact hW2, hb3.out.trans hb4⟩
       · have g1 := Lib.hid (ih (ls.drop k) (i - k) false B _ w.drew (by omega) (by omega) (by omega) (SeesL.below c2 (Below.refl B w).drew) hB (by omega) l2)
         have g2 := Lib.hid (fun (W : World) (hbW : Below w.heap.size w W) => rroot_any _ (ls.take k) B _ W (Nat.le_refl _) (SeesL.below c1 (hbW.mono hB)) (Nat.le_trans hB hbW.size) (by omega) l1)
         have i0 : ¬ ((i : Int) ≤ (k : Int)) := by omega
         have i1 : IntKind.i64.wrap ((i : Int) - (k : Int)) = ((i - k : Nat) : Int) := by rw [IntKind.wrap_i64]; omega
         replace p2 := Lib.hid (p2.out hk)
         have hp := Lib.hid (hplen (i - k) false).out.2
         clear ih c1 c2 hu hlen hl l1 l2 n1 n2 p1 hplen
         generalize proofG ((ls.drop k).map leafH) (i - k) false = P at *
         generalize rootG ((ls.drop k).map leafH) = R' at *
         generalize rootG ((ls.take k).map leafH) = R at *
         go_enter Tryz.func167, Tryz.ntmps167
         go_wp2_with fail
         refine hsp.out.mono ?_
         rintro e w0 ⟨rfl, rfl⟩
         dsimp only
         go_wp2_with fail
         go_region_held3 (fun W' : World => True) (trivial)
          (first
           | (refine step_appL (by rfl) _ _ 52 Tryz.underlying52 (by rfl) w0.heap.size _ P (by rfl) ho2.out _ _ _ R (by rfl) hcell.out hel.out (by have := hp.out; omega) hb3.out.size ?_; intro v' w' hW2 hb4)
           | (go_at_call 164; refine (g2.out _ (bgo (bdrew _) hb1)).mono ?_; rintro e w2 ⟨v2, rfl, h2', hb2⟩; obtain ⟨A9, c9, rfl, -, -⟩ := h2'.sees.mk_
              have hw2 := bgo (bgo (bdrew _) hb1) hb2
              have hel := Elt.of_from (v := .slice A8 P.length c8) h2'.sees h2'.from (fun k hk => (h1.lt k hk).2)
              have hcell := Lib.hid (one_cell w2 (.slice A9 R.length c9) 34)
              have ho2 := Lib.hid ((h1.below hb2).below (balloc w2 (.cells #[.slice A9 R.length c9] 34)))
              replace hel := Lib.hid (hel.below (balloc w2 (.cells #[.slice A9 R.length c9] 34)))
              have hb3 := Lib.hid (bgo hw2 (balloc w2 (.cells #[.slice A9 R.length c9] 34)))
              clear hb2 hw2 h2')
           | (go_at_call 167; refine g1.out.mono ?_; rintro e w1 ⟨v1, rfl, h1, hb1⟩; obtain ⟨A8, c8, rfl⟩ := h1.shape))
         all_goals
          go_wp2_with fail
          go_ret
          exact ⟨v', rfl, by rw [p2.out]; exact hW2, hb3.out.trans hb4⟩
     · have hf : i = ls.length := by omega
       have hp := proofG_full (ls.map leafH) i (by rw [List.length_map]; exact hf) kn
       obtain ⟨A, c, rfl, hc1, hc2⟩ := hu.mk_
       have hrt := Lib.hid (rroot_any _ ls B _ w (Nat.le_refl _) hu hB (by omega) hl)
       rw [hp]
       have j4 : (i : Int) = (ls.length : Int) := by omega
       rw [j4]
       clear hu ih hl hp hf j4 hfull hlen hi hi2 hm h0
       generalize rootG (ls.map leafH) = R at *
       generalize ls.length = N at *
       go_enter Tryz.func167, Tryz.ntmps167
       cases kn with
       | true =>
         go_wp2_with fail
         go_ret
         exact ⟨_, rfl, OwnL.nil _ _, Below.refl _ _⟩
       | false =>
         go_wp2_with fail
         refine hrt.out.mono ?_
         rintro e w1 ⟨v1, rfl, h1, hb1⟩
         have hs1 := h1.sees
         obtain ⟨A9, c9, rfl, -, -⟩ := h1.sees.mk_
         have ho := OwnL.one hs1
         have hb2 := bgo hb1 (balloc w1 (.cells #[.slice A9 R.length c9] 34))
         have ho2 := ho.mono hb1.size
         clear ho hs1 h1 hrt
         dsimp only
         go_wp2_with fail
         go_ret
         exact ⟨_, rfl, ho2, hb2⟩
theorem rconsistency_top (ls : List Bs) (i : Nat) (B : Nat) (u : Value) (w : World) (hu : SeesL w B u ls) (hi1 : 1 ≤ i) (hi : i ≤ ls.length) (hB : B ≤ w.heap.size) (hn : ls.length ≤ 1024) (hl : ∀ l ∈ ls, l.length ≤ 1048576) :
 Calls Tryz.prog 99 #[u, .int .i64 (i : Int)] w (ProofPost (ls.map leafH) i w) := by
 have hs := Lib.hid (rproof_any _ ls i true B u w (Nat.le_refl _) hi1 hi hu hB hn hl)
 obtain ⟨A, c, rfl, hc1, hc2⟩ := hu.mk_
 have j0 : ¬ ((1024 : Int) < (ls.length : Int)) := by omega
 have j1 : ¬ ((i : Int) < 1) := by omega
 have j2 : ¬ ((ls.length : Int) < (i : Int)) := by omega
 clear hu hl
 go_enter Tryz.func99, Tryz.ntmps99
 go_wp2_with fail
 refine hs.out.mono ?_
 rintro e w1 ⟨v, rfl, h1, hb1⟩
 dsimp only
 go_wp2_with fail
 go_returns
 exact ⟨v, rfl, h1, hb1⟩
def SeesT (w : World) (B : Nat) (v : Value) (l : List Int) : Prop := Sees w B v 1 l.length (l.map fun x => Value.int .i64 x)
theorem SeesT.mk_ {w : World} {B : Nat} {v : Value} {l : List Int} (h : SeesT w B v l) : ∃ A c, v = .slice A l.length c ∧ l.length ≤ c ∧ c ≤ maxLen := Sees.mk_ h
theorem SeesT.at_ {w : World} {B n c : Nat} {A : Option Addr} {l : List Int} (h : SeesT w B (.slice A n c) l) (hn : 0 < l.length) : ∃ b o, A = some ⟨b, o, none⟩ ∧ b < B ∧ ∀ j, j < l.length → w.cell? ⟨b, o + j, none⟩ = some (.int .i64 (l.getD j 0)) := by
 obtain ⟨A', c', e, -, -⟩ := h.mk_
 injection e with e1 e2 e3
 subst e1 e2 e3
 obtain ⟨b, o, e, hb, hc⟩ := Sees.at_ h hn
 refine ⟨b, o, e, hb, fun j hj => hc j _ ?_⟩
 rw [List.getElem?_map, List.getElem?_eq_getElem hj, List.getD_eq_getElem?_getD, List.getElem?_eq_getElem hj]
 rfl
def TapeAt (w : World) (g : Nat) (u : Value) (l : List Int) (k : Nat) : Prop := Box w g 108 [u, .int .i64 k] ∧ SeesT w g u l ∧ k ≤ l.length
theorem TapeAt.grown {w w' : World} {g : Nat} {u : Value} {l : List Int} {k : Nat} (h : TapeAt w g u l k) (hb : Below w.heap.size w w') : TapeAt w' g u l k :=
 ⟨h.1.below hb, Sees.below h.2.1 (hb.mono (Nat.le_of_lt h.1.lt)), h.2.2⟩
theorem TapeAt.drew {w : World} {g : Nat} {u : Value} {l : List Int} {k : Nat} (h : TapeAt w g u l k) : TapeAt w.drew g u l k := h.grown (bdrew w)
def HeadP (ls : List Bs) (w : World) (e : Ending) (w' : World) : Prop := ∃ v, e = .returned (.tuple #[v, .int .i64 0]) ∧ SeesB w' w'.heap.size v (rootG (ls.map leafH)) ∧ Below w.heap.size w w'
def inC (n : Nat) (i : Int) : Int := if 0 ≤ i ∧ i < n then 0 else 4
def inL (ls : List Bs) (i : Int) : List Bs := if 0 ≤ i ∧ i < ls.length then pathG (ls.map leafH) i.toNat else []
def growC (n : Nat) (i : Int) : Int := if 1 ≤ i ∧ i ≤ n then 0 else 4
def growL (ls : List Bs) (i : Int) : List Bs := if 1 ≤ i ∧ i ≤ ls.length then proofG (ls.map leafH) i.toNat true else []
def InP (c : Int) (l : List Bs) (w : World) (e : Ending) (w' : World) : Prop := ∃ v, e = .returned (.tuple #[v, .int .i64 c]) ∧ SeesL w' w'.heap.size v l ∧ Below w.heap.size w w'
theorem box1_cell {W : World} {g : Nat} {T : TypeId} {a : Value} (h : Box W g T [a]) : W.cell? ⟨g, 0, none⟩ = some a := h.cell 0
theorem inP_bad {c : Int} {l : List Bs} {w w' : World} (h : l = []) (hb : Below w.heap.size w w') : InP c l w (.returned (.tuple #[.slice none 0 0, .int .i64 c])) w' := by
 subst h
 exact ⟨_, rfl, (OwnL.nil w' 0).sees, hb⟩
set_option maxRecDepth 100000 in
theorem path_int (ls : List Bs) (i : Int) (u : Value) (w : World) (hu : SeesL w w.heap.size u ls) (hn : ls.length ≤ 64) (hl : ∀ l ∈ ls, l.length ≤ 1048576) :
 Calls Tryz.prog 75 #[u, .int .i64 i] w (InP (inC ls.length i) (inL ls i) w) := by
 by_cases h : 0 ≤ i ∧ i < ls.length
 · obtain ⟨k, rfl⟩ := Int.eq_ofNat_of_zero_le h.1
   refine (path_top ls k _ u w hu (by omega) (Nat.le_refl _) (by omega) hl).mono ?_
   rintro e w' ⟨v, rfl, h1, h2⟩
   exact ⟨v, by rw [inC, if_pos h], by rw [inL, if_pos h]; exact h1.sees, h2⟩
 · have hc : inC ls.length i = 4 := if_neg h
   have hl0 : inL ls i = [] := if_neg h
   rw [hc, hl0]
   obtain ⟨A, c, rfl, -, -⟩ := hu.mk_
   have j0 : ¬ ((1024 : Int) < (ls.length : Int)) := by omega
   clear hu hl hc hl0
   by_cases h1 : i < 0
   · clear h
     go_enter Tryz.func75, Tryz.ntmps75
     go_wp2_with fail
     go_returns
     exact inP_bad rfl (by go_grown)
   · have h2 : (ls.length : Int) ≤ i := by omega
     clear h
     go_enter Tryz.func75, Tryz.ntmps75
     go_wp2_with fail
     go_returns
     exact inP_bad rfl (by go_grown)
set_option maxRecDepth 100000 in
theorem rpath_int (ls : List Bs) (i : Int) (u : Value) (w : World) (hu : SeesL w w.heap.size u ls) (hn : ls.length ≤ 64) (hl : ∀ l ∈ ls, l.length ≤ 1048576) :
 Calls Tryz.prog 97 #[u, .int .i64 i] w (InP (inC ls.length i) (inL ls i) w) := by
 by_cases h : 0 ≤ i ∧ i < ls.length
 · obtain ⟨k, rfl⟩ := Int.eq_ofNat_of_zero_le h.1
   refine (rpath_top ls k _ u w hu (by omega) (Nat.le_refl _) (by omega) hl).mono ?_
   rintro e w' ⟨v, rfl, h1, h2⟩
   exact ⟨v, by rw [inC, if_pos h], by rw [inL, if_pos h]; exact h1.sees, h2⟩
 · have hc : inC ls.length i = 4 := if_neg h
   have hl0 : inL ls i = [] := if_neg h
   rw [hc, hl0]
   obtain ⟨A, c, rfl, -, -⟩ := hu.mk_
   have j0 : ¬ ((1024 : Int) < (ls.length : Int)) := by omega
   clear hu hl hc hl0
   by_cases h1 : i < 0
   · clear h
     go_enter Tryz.func97, Tryz.ntmps97
     go_wp2_with fail
     go_returns
     exact inP_bad rfl (by go_grown)
   · have h2 : (ls.length : Int) ≤ i := by omega
     clear h
     go_enter Tryz.func97, Tryz.ntmps97
     go_wp2_with fail
     go_returns
     exact inP_bad rfl (by go_grown)
set_option maxRecDepth 100000 in
theorem cons_int (ls : List Bs) (i : Int) (u : Value) (w : World) (hu : SeesL w w.heap.size u ls) (hn : ls.length ≤ 64) (hl : ∀ l ∈ ls, l.length ≤ 1048576) :
 Calls Tryz.prog 98 #[u, .int .i64 i] w (InP (growC ls.length i) (growL ls i) w) := by
 by_cases h : 1 ≤ i ∧ i ≤ ls.length
 · obtain ⟨k, rfl⟩ := Int.eq_ofNat_of_zero_le (show 0 ≤ i by omega)
   refine (consistency_top ls k _ u w hu (by omega) (by omega) (Nat.le_refl _) (by omega) hl).mono ?_
   rintro e w' ⟨v, rfl, h1, h2⟩
   exact ⟨v, by rw [growC, if_pos h], by rw [growL, if_pos h]; exact h1.sees, h2⟩
 · have hc : growC ls.length i = 4 := if_neg h
   have hl0 : growL ls i = [] := if_neg h
   rw [hc, hl0]
   obtain ⟨A, c, rfl, -, -⟩ := hu.mk_
   have j0 : ¬ ((1024 : Int) < (ls.length : Int)) := by omega
   clear hu hl hc hl0
   by_cases h1 : i < 1
   · clear h
     go_enter Tryz.func98, Tryz.ntmps98
     go_wp2_with fail
     go_returns
     exact inP_bad rfl (by go_grown)
   · have h2 : (ls.length : Int) < i := by omega
     clear h
     go_enter Tryz.func98, Tryz.ntmps98
     go_wp2_with fail
     go_returns
     exact inP_bad rfl (by go_grown)
set_option maxRecDepth 100000 in
theorem rcons_int (ls : List Bs) (i : Int) (u : Value) (w : World) (hu : SeesL w w.heap.size u ls) (hn : ls.length ≤ 64) (hl : ∀ l ∈ ls, l.length ≤ 1048576) :
 Calls Tryz.prog 99 #[u, .int .i64 i] w (InP (growC ls.length i) (growL ls i) w) := by
 by_cases h : 1 ≤ i ∧ i ≤ ls.length
 · obtain ⟨k, rfl⟩ := Int.eq_ofNat_of_zero_le (show 0 ≤ i by omega)
   refine (rconsistency_top ls k _ u w hu (by omega) (by omega) (Nat.le_refl _) (by omega) hl).mono ?_
   rintro e w' ⟨v, rfl, h1, h2⟩
   exact ⟨v, by rw [growC, if_pos h], by rw [growL, if_pos h]; exact h1.sees, h2⟩
 · have hc : growC ls.length i = 4 := if_neg h
   have hl0 : growL ls i = [] := if_neg h
   rw [hc, hl0]
   obtain ⟨A, c, rfl, -, -⟩ := hu.mk_
   have j0 : ¬ ((1024 : Int) < (ls.length : Int)) := by omega
   clear hu hl hc hl0
   by_cases h1 : i < 1
   · clear h
     go_enter Tryz.func99, Tryz.ntmps99
     go_wp2_with fail
     go_returns
     exact inP_bad rfl (by go_grown)
   · have h2 : (ls.length : Int) < i := by omega
     clear h
     go_enter Tryz.func99, Tryz.ntmps99
     go_wp2_with fail
     go_returns
     exact inP_bad rfl (by go_grown)
set_option maxRecDepth 100000 in
theorem entries_any (A : Option Addr) (n c : Nat) (w : World) (hn : n ≤ 64) :
 Calls Tryz.prog 94 #[.agg #[.slice A n c]] w fun e w' => e = .returned (.tuple #[.slice A n c, .int .i64 0]) ∧ Below w.heap.size w w' := by
 have j0 : ¬ ((64 : Int) < (n : Int)) := by omega
 have hx := Box.new w 63 [.slice A n c]
 change Box (w.alloc (.cells #[.slice A n c] 63)) _ _ _ at hx
 have hal := Lib.hid (balloc w (.cells #[.slice A n c] 63))
 have y0 := box1_cell hx
 clear hx
 go_enter Tryz.func94, Tryz.ntmps94
 go_wp2_with fail
 go_returns
 exact ⟨rfl, hal.out⟩
set_option maxRecDepth 100000 in
theorem lhead_any (ls : List Bs) (u : Value) (w : World) (hu : SeesL w w.heap.size u ls) (hn : ls.length ≤ 64) (hl : ∀ l ∈ ls, l.length ≤ 1048576) :
 Calls Tryz.prog 36 #[.agg #[u]] w (HeadP ls w) := by
 obtain ⟨A, c, rfl, -, -⟩ := hu.mk_
 have hx := Box.new w 63 [.slice A ls.length c]
 change Box (w.alloc (.cells #[.slice A ls.length c] 63)) _ _ _ at hx
 have hal := balloc w (.cells #[.slice A ls.length c] 63)
 have y0 := box1_cell hx
 have hen := Lib.hid (fun W => entries_any A ls.length c W hn)
 have hrt := Lib.hid (fun W (hW : Below w.heap.size w W) => root_top ls _ _ W (seesL_of hu (Nat.le_refl _) hW) (Nat.le_refl _) (by omega) hl)
 replace hal := Lib.hid hal
 clear hx hu hl hn
 go_enter Tryz.func36, Tryz.ntmps36
 go_wp2_with fail
 refine (hen.out _).mono ?_
 rintro e w1 ⟨rfl, hb1⟩
 replace hal := Lib.hid (bgo hal.out hb1)
 clear y0 hb1 hen
 dsimp only
 go_wp2_with fail
 refine (hrt.out w1 hal.out).mono ?_
 rintro e w2 ⟨v, rfl, h2, hb2⟩
 replace hal := Lib.hid (bgo hal.out hb2)
 have h2s := h2.sees
 dsimp only
 go_wp2_with fail
 go_returns
 exact ⟨v, rfl, h2s, hal.out⟩
set_option maxRecDepth 100000 in
theorem rlhead_any (ls : List Bs) (u : Value) (w : World) (hu : SeesL w w.heap.size u ls) (hn : ls.length ≤ 64) (hl : ∀ l ∈ ls, l.length ≤ 1048576) :
 Calls Tryz.prog 37 #[.agg #[u]] w (HeadP ls w) := by
 obtain ⟨A, c, rfl, -, -⟩ := hu.mk_
 have hx := Box.new w 63 [.slice A ls.length c]
 change Box (w.alloc (.cells #[.slice A ls.length c] 63)) _ _ _ at hx
 have hal := balloc w (.cells #[.slice A ls.length c] 63)
 have y0 := box1_cell hx
 have j0 : ¬ ((64 : Int) < (ls.length : Int)) := by omega
 have hrt := Lib.hid (fun W (hW : Below w.heap.size w W) => rroot_top ls _ _ W (seesL_of hu (Nat.le_refl _) hW) (Nat.le_refl _) (by omega) hl)
 replace hal := Lib.hid hal
 clear hx hu hl hn
 go_enter Tryz.func37, Tryz.ntmps37
 go_wp2_with fail
 refine (hrt.out _ hal.out).mono ?_
 rintro e w2 ⟨v, rfl, h2, hb2⟩
 replace hal := Lib.hid (bgo hal.out hb2)
 have h2s := h2.sees
 dsimp only
 go_wp2_with fail
 go_returns
 exact ⟨v, rfl, h2s, hal.out⟩
set_option maxRecDepth 100000 in
theorem lincl_any (ls : List Bs) (u : Value) (i : Int) (w : World) (hu : SeesL w w.heap.size u ls) (hn : ls.length ≤ 64) (hl : ∀ l ∈ ls, l.length ≤ 1048576) :
 Calls Tryz.prog 38 #[.agg #[u], .int .i64 i] w (InP (inC ls.length i) (inL ls i) w) := by
 obtain ⟨A, c, rfl, -, -⟩ := hu.mk_
 have hx := Box.new w 63 [.slice A ls.length c]
 change Box (w.alloc (.cells #[.slice A ls.length c] 63)) _ _ _ at hx
 have hal := balloc w (.cells #[.slice A ls.length c] 63)
 have y0 := box1_cell hx
 have hen := Lib.hid (fun W => entries_any A ls.length c W hn)
 have hrt := Lib.hid (fun W (hW : Below w.heap.size w W) => path_int ls i _ W (seesL_of hu (Nat.le_refl _) hW) hn hl)
 replace hal := Lib.hid hal
 clear hx hu hl hn
 go_enter Tryz.func38, Tryz.ntmps38
 go_wp2_with fail
 refine (hen.out _).mono ?_
 rintro e w1 ⟨rfl, hb1⟩
 replace hal := Lib.hid (bgo hal.out hb1)
 clear y0 hb1 hen
 dsimp only
 go_wp2_with fail
 refine (hrt.out w1 hal.out).mono ?_
 rintro e w2 ⟨v, rfl, h2, hb2⟩
 replace hal := Lib.hid (bgo hal.out hb2)
 dsimp only
 go_wp2_with fail
 go_returns
 exact ⟨v, rfl, h2, hal.out⟩
set_option maxRecDepth 100000 in
theorem rlincl_any (ls : List Bs) (u : Value) (i : Int) (w : World) (hu : SeesL w w.heap.size u ls) (hn : ls.length ≤ 64) (hl : ∀ l ∈ ls, l.length ≤ 1048576) :
 Calls Tryz.prog 39 #[.agg #[u], .int .i64 i] w (InP (inC ls.length i) (inL ls i) w) := by
 obtain ⟨A, c, rfl, -, -⟩ := hu.mk_
 have hx := Box.new w 63 [.slice A ls.length c]
 change Box (w.alloc (.cells #[.slice A ls.length c] 63)) _ _ _ at hx
 have hal := balloc w (.cells #[.slice A ls.length c] 63)
 have y0 := box1_cell hx
 have j0 : ¬ ((64 : Int) < (ls.length : Int)) := by omega
 have hrt := Lib.hid (fun W (hW : Below w.heap.size w W) => rpath_int ls i _ W (seesL_of hu (Nat.le_refl _) hW) hn hl)
 replace hal := Lib.hid hal
 clear hx hu hl hn
 go_enter Tryz.func39, Tryz.ntmps39
 go_wp2_with fail
 refine (hrt.out _ hal.out).mono ?_
 rintro e w2 ⟨v, rfl, h2, hb2⟩
 replace hal := Lib.hid (bgo hal.out hb2)
 dsimp only
 go_wp2_with fail
 go_returns
 exact ⟨v, rfl, h2, hal.out⟩
set_option maxRecDepth 100000 in
theorem lgrow_any (ls : List Bs) (u : Value) (i : Int) (w : World) (hu : SeesL w w.heap.size u ls) (hn : ls.length ≤ 64) (hl : ∀ l ∈ ls, l.length ≤ 1048576) :
 Calls Tryz.prog 40 #[.agg #[u], .int .i64 i] w (InP (growC ls.length i) (growL ls i) w) := by
 obtain ⟨A, c, rfl, -, -⟩ := hu.mk_
 have hx := Box.new w 63 [.slice A ls.length c]
 change Box (w.alloc (.cells #[.slice A ls.length c] 63)) _ _ _ at hx
 have hal := balloc w (.cells #[.slice A ls.length c] 63)
 have y0 := box1_cell hx
 have hen := Lib.hid (fun W => entries_any A ls.length c W hn)
 have hrt := Lib.hid (fun W (hW : Below w.heap.size w W) => cons_int ls i _ W (seesL_of hu (Nat.le_refl _) hW) hn hl)
 replace hal := Lib.hid hal
 clear hx hu hl hn
 go_enter Tryz.func40, Tryz.ntmps40
 go_wp2_with fail
 refine (hen.out _).mono ?_
 rintro e w1 ⟨rfl, hb1⟩
 replace hal := Lib.hid (bgo hal.out hb1)
 clear y0 hb1 hen
 dsimp only
 go_wp2_with fail
 refine (hrt.out w1 hal.out).mono ?_
 rintro e w2 ⟨v, rfl, h2, hb2⟩
 replace hal := Lib.hid (bgo hal.out hb2)
 dsimp only
 go_wp2_with fail
 go_returns
 exact ⟨v, rfl, h2, hal.out⟩
set_option maxRecDepth 100000 in
theorem rlgrow_any (ls : List Bs) (u : Value) (i : Int) (w : World) (hu : SeesL w w.heap.size u ls) (hn : ls.length ≤ 64) (hl : ∀ l ∈ ls, l.length ≤ 1048576) :
 Calls Tryz.prog 41 #[.agg #[u], .int .i64 i] w (InP (growC ls.length i) (growL ls i) w) := by
 obtain ⟨A, c, rfl, -, -⟩ := hu.mk_
 have hx := Box.new w 63 [.slice A ls.length c]
 change Box (w.alloc (.cells #[.slice A ls.length c] 63)) _ _ _ at hx
 have hal := balloc w (.cells #[.slice A ls.length c] 63)
 have y0 := box1_cell hx
 have j0 : ¬ ((64 : Int) < (ls.length : Int)) := by omega
 have hrt := Lib.hid (fun W (hW : Below w.heap.size w W) => rcons_int ls i _ W (seesL_of hu (Nat.le_refl _) hW) hn hl)
 replace hal := Lib.hid hal
 clear hx hu hl hn
 go_enter Tryz.func41, Tryz.ntmps41
 go_wp2_with fail
 refine (hrt.out _ hal.out).mono ?_
 rintro e w2 ⟨v, rfl, h2, hb2⟩
 replace hal := Lib.hid (bgo hal.out hb2)
 dsimp only
 go_wp2_with fail
 go_returns
 exact ⟨v, rfl, h2, hal.out⟩
section
variable {P : Program} {ops : Array Oper} {Q : Exit → Act → World → Prop} {md : Region.Mode} {S : World → Prop} {s : Nat}
def TillJ (S : World → Prop) (s : Nat) (listed : Array Bool) (w : World) : Prop := listed.getD s true = false → S w
def wpAnyJ (P : Program) (md : Region.Mode) (ops : Array Oper) (Q : Exit → Act → World → Prop) (S : World → Prop) (s : Nat) : Nat → Array Bool → Act → World → Prop
 | 0, listed, a, w => Region.ready md ops listed = [] ∧ Q .normal a w
 | fuel + 1, listed, a, w =>
   (Region.ready md ops listed = [] → Q .normal a w) ∧
   ∀ i ∈ Region.ready md ops listed, wpOp P ops Q i (fun a' w' => TillJ S s (listed.setIfInBounds i true) w' ∧ wpAnyJ P md ops Q S s fuel (listed.setIfInBounds i true) a' w') a w
theorem wpAny_of_J : ∀ (fuel : Nat) (listed : Array Bool) (a : Act) (w : World), wpAnyJ P md ops Q S s fuel listed a w → wpAny P md ops Q fuel listed a w
 | 0, _, _, _, h => h
 | fuel + 1, _, _, _, h => ⟨h.1, fun i hi => wpOp_mono (fun a' w' h' => wpAny_of_J fuel _ a' w' h'.2) (h.2 i hi)⟩
theorem wpAnyJ_first {i : Nat} {oi : Oper} {v : Value} (hi : ops[i]? = some oi) (hsel : ∀ (j : Nat) (o : Oper) cs b, ops[j]? = some o → o.op ≠ .select cs b)
 (hQ : ∀ c a w, Q (.panic c) (a.put oi.dst v) w → Q (.panic c) a w) (hs : s ≠ i) {os : Oper} (ho : ops[s]? = some os) (hw : ∃ e ∈ os.after, Region.binds md e = true ∧ e.on = i) :
 ∀ (fuel : Nat) (listed : Array Bool) (a : Act) (w : World),
  (∀ j oj, ops[j]? = some oj → j ≠ i → listed.getD j true = false → (∀ e ∈ oj.after, Region.binds md e = true → e.on ≠ i) → oi.apart ops oj = true) →
  i ∈ Region.ready md ops listed → YieldsIf P ops S oi v a → listed.getD s true = false → S w →
  wpAnyJ P md ops Q S s fuel (listed.setIfInBounds i true) (a.put oi.dst v) w → wpAnyJ P md ops Q S s (fuel + 1) listed a w := by
 intro fuel
 induction fuel with
 | zero =>
   intro listed a w _ hr hy hu hS H
   refine ⟨fun h => (by rw [h] at hr; cases hr), fun j hj => ?_⟩
   by_cases hji : j = i
   · subst hji; exact hy.wpOp hi hS ⟨fun _ => hS, H⟩
   · have := ready_mono hj hji
     rw [H.1] at this
     cases this
 | succ fuel ih =>
   intro listed a w hfree hr hy hu hS H
   refine ⟨fun h => (by rw [h] at hr; cases hr), fun j hj => ?_⟩
   by_cases hji : j = i
   · subst hji; exact hy.wpOp hi hS ⟨fun _ => hS, H⟩
   · have h1 := H.2 j (ready_mono hj hji)
     obtain ⟨hjun, oj, hoj, hall⟩ := mem_ready.1 hj
     have hnot : ∀ e ∈ oj.after, Region.binds md e = true → e.on ≠ i := fun e he hb heq => by
      have h1 := hall e he hb
      have h0 := (mem_ready.1 hr).1
      rw [heq] at h1
      rcases Nat.lt_or_ge i listed.size with h' | h'
      · simp [h'] at h0 h1; rw [h0] at h1; cases h1
      · simp [Array.getElem?_eq_none h'] at h1
     have hjs : j ≠ s := fun e => by
      subst e
      rw [hoj] at ho
      cases ho
      obtain ⟨e, he, hb, heq⟩ := hw
      exact hnot e he hb heq
     have hu2 : (listed.setIfInBounds j true).getD s true = false := by rw [getD_set_ne true hjs]; exact hu
     have hu3 : ((listed.setIfInBounds i true).setIfInBounds j true).getD s true = false := by rw [getD_set_ne true hjs, getD_set_ne true (Ne.symm hs)]; exact hu
     have h2 := wpOp_putIf hoj (hfree j oj hoj hji hjun hnot) (fun cs b => hsel i oi cs b hi) (fun cs b => hsel j oj cs b hoj) hQ hy h1
     have hfree' : ∀ k ok, ops[k]? = some ok → k ≠ i → (listed.setIfInBounds j true).getD k true = false →
      (∀ e ∈ ok.after, Region.binds md e = true → e.on ≠ i) → oi.apart ops ok = true := fun k ok hk hki hun hno => by
      refine hfree k ok hk hki ?_ hno
      by_cases hjk : j = k
      · subst hjk; exact hjun
      · rw [getD_set_ne true hjk] at hun; exact hun
     refine wpOp_mono (fun a' w' h3 => ⟨fun _ => h3.2.1 hu3, ih (listed.setIfInBounds j true) a' w' hfree' (ready_mono hr (Ne.symm hji)) h3.1 hu2 (h3.2.1 hu3) ?_⟩) h2
     rw [Array.setIfInBounds_comm _ _ hji]
     exact h3.2.2
theorem wpAnyJ_take {i : Nat} {oi os : Oper} {v : Value} {fuel : Nat} {listed : Array Bool} {a : Act} {w : World} (hi : ops[i]? = some oi)
 (hsl : Region.noSelect ops = true) (hf : Region.free md ops listed i = true) (hr : (Region.ready md ops listed).contains i = true)
 (hQ : ∀ c a w, Q (.panic c) (a.put oi.dst v) w → Q (.panic c) a w) (hs : Nat.beq s i = false) (ho : ops[s]? = some os) (hw : os.after.toList.any (fun e => Region.binds md e && Nat.beq e.on i) = true)
 (hu : listed.getD s true = false) (hy : YieldsIf P ops S oi v a) (hS : TillJ S s listed w)
 (h : wpAnyJ P md ops Q S s fuel (listed.setIfInBounds i true) (a.put oi.dst v) w) : wpAnyJ P md ops Q S s (fuel + 1) listed a w := by
 refine wpAnyJ_first hi (Region.noSelect_spec hsl) hQ (Nat.ne_of_beq_eq_false hs) ho ?_ fuel listed a w (Region.free_spec hi hf) (by simpa using hr) hy hu (hS hu) h
 obtain ⟨e, he, h2⟩ := List.any_eq_true.1 hw
 simp only [Bool.and_eq_true] at h2
 exact ⟨e, by simpa using he, h2.1, Nat.eq_of_beq_eq_true h2.2⟩
theorem wpAnyJ_first0 {i : Nat} {oi : Oper} {v : Value} (hi : ops[i]? = some oi) (hsel : ∀ (j : Nat) (o : Oper) cs b, ops[j]? = some o → o.op ≠ .select cs b)
 (hQ : ∀ c a w, Q (.panic c) (a.put oi.dst v) w → Q (.panic c) a w) (hs : s ≠ i) :
 ∀ (fuel : Nat) (listed : Array Bool) (a : Act) (w : World),
  (∀ j oj, ops[j]? = some oj → j ≠ i → listed.getD j true = false → (∀ e ∈ oj.after, Region.binds md e = true → e.on ≠ i) → oi.apart ops oj = true) →
  i ∈ Region.ready md ops listed → YieldsIf P ops (fun _ => True) oi v a → TillJ S s listed w →
  wpAnyJ P md ops Q S s fuel (listed.setIfInBounds i true) (a.put oi.dst v) w → wpAnyJ P md ops Q S s (fuel + 1) listed a w := by
 intro fuel
 induction fuel with
 | zero =>
   intro listed a w _ hr hy hS H
   refine ⟨fun h => (by rw [h] at hr; cases hr), fun j hj => ?_⟩
   by_cases hji : j = i
   · subst hji; exact hy.wpOp hi trivial ⟨fun h => hS (by rw [getD_set_ne true (Ne.symm hs)] at h; exact h), H⟩
   · have := ready_mono hj hji
     rw [H.1] at this
     cases this
 | succ fuel ih =>
   intro listed a w hfree hr hy hS H
   refine ⟨fun h => (by rw [h] at hr; cases hr), fun j hj => ?_⟩
   by_cases hji : j = i
   · subst hji; exact hy.wpOp hi trivial ⟨fun h => hS (by rw [getD_set_ne true (Ne.symm hs)] at h; exact h), H⟩
   · have h1 := H.2 j (ready_mono hj hji)
     obtain ⟨hjun, oj, hoj, hall⟩ := mem_ready.1 hj
     have hnot : ∀ e ∈ oj.after, Region.binds md e = true → e.on ≠ i := fun e he hb heq => by
      have h1 := hall e he hb
      have h0 := (mem_ready.1 hr).1
      rw [heq] at h1
      rcases Nat.lt_or_ge i listed.size with h' | h'
      · simp [h'] at h0 h1; rw [h0] at h1; cases h1
      · simp [Array.getElem?_eq_none h'] at h1
     have h2 := wpOp_putIf hoj (hfree j oj hoj hji hjun hnot) (fun cs b => hsel i oi cs b hi) (fun cs b => hsel j oj cs b hoj) hQ hy h1
     have hfree' : ∀ k ok, ops[k]? = some ok → k ≠ i → (listed.setIfInBounds j true).getD k true = false →
      (∀ e ∈ ok.after, Region.binds md e = true → e.on ≠ i) → oi.apart ops ok = true := fun k ok hk hki hun hno => by
      refine hfree k ok hk hki ?_ hno
      by_cases hjk : j = k
      · subst hjk; exact hjun
      · rw [getD_set_ne true hjk] at hun; exact hun
     have hT : ∀ w', TillJ S s ((listed.setIfInBounds i true).setIfInBounds j true) w' → TillJ S s (listed.setIfInBounds j true) w' := fun w' h hl => h (by
      rw [Array.setIfInBounds_comm _ _ (Ne.symm hji), getD_set_ne true (Ne.symm hs)]; exact hl)
     refine wpOp_mono (fun a' w' h3 => ⟨hT w' h3.2.1, ih (listed.setIfInBounds j true) a' w' hfree' (ready_mono hr (Ne.symm hji)) h3.1 (hT w' h3.2.1) ?_⟩) h2
     rw [Array.setIfInBounds_comm _ _ hji]
     exact h3.2.2
theorem wpAnyJ_take0 {i : Nat} {oi : Oper} {v : Value} {fuel : Nat} {listed : Array Bool} {a : Act} {w : World} (hi : ops[i]? = some oi)
 (hsl : Region.noSelect ops = true) (hf : Region.free md ops listed i = true) (hr : (Region.ready md ops listed).contains i = true)
 (hQ : ∀ c a w, Q (.panic c) (a.put oi.dst v) w → Q (.panic c) a w) (hs : Nat.beq s i = false) (hy : YieldsIf P ops (fun _ => True) oi v a) (hS : TillJ S s listed w)
 (h : wpAnyJ P md ops Q S s fuel (listed.setIfInBounds i true) (a.put oi.dst v) w) : wpAnyJ P md ops Q S s (fuel + 1) listed a w :=
 wpAnyJ_first0 hi (Region.noSelect_spec hsl) hQ (Nat.ne_of_beq_eq_false hs) fuel listed a w (Region.free_spec hi hf) (by simpa using hr) hy hS h
theorem wpAnyJ_done {listed : Array Bool} {a : Act} {w : World} (hr : Region.ready md ops listed = []) (h : Q .normal a w) :
 ∀ fuel, wpAnyJ P md ops Q S s fuel listed a w
 | 0 => ⟨hr, h⟩
 | _ + 1 => ⟨fun _ => h, by rw [hr]; simp⟩
def AllReadyJ (P : Program) (md : Region.Mode) (ops : Array Oper) (Q : Exit → Act → World → Prop) (S : World → Prop) (s fuel : Nat) (listed : Array Bool) (a : Act) (w : World) (rs : List Nat) : Prop :=
 ∀ i ∈ rs, wpOp P ops Q i (fun a' w' => TillJ S s (listed.setIfInBounds i true) w' ∧ wpAnyJ P md ops Q S s fuel (listed.setIfInBounds i true) a' w') a w
theorem AllReadyJ.nil {fuel : Nat} {listed : Array Bool} {a : Act} {w : World} : AllReadyJ P md ops Q S s fuel listed a w [] := fun _ h => by cases h
theorem AllReadyJ.cons {fuel : Nat} {listed : Array Bool} {a : Act} {w : World} {i : Nat} {o : Oper} {rs : List Nat} (ho : ops[i]? = some o)
 (h : ∀ K' : Act → World → Prop, Shut (∀ a w, TillJ S s (listed.setIfInBounds i true) w → (TillJ S s (listed.setIfInBounds i true) w → wpAnyJ P md ops Q S s fuel (listed.setIfInBounds i true) a w) → K' a w) → if Region.wanted o (yielded ops a.tmps) = true then Oper.wp P o a w K' Q else K' (a.put o.dst undef) w)
 (hs : AllReadyJ P md ops Q S s fuel listed a w rs) : AllReadyJ P md ops Q S s fuel listed a w (i :: rs) := fun j hj => by
 rcases List.mem_cons.1 hj with rfl | hj
 · exact wpOp_step ho (fun K' hK => h K' (fun a w hS hW => hK a w ⟨hS, hW hS⟩))
 · exact hs j hj
theorem wpAnyJ_ready {rs : List Nat} {fuel : Nat} {listed : Array Bool} {a : Act} {w : World} (hr : Region.ready md ops listed = rs) (hne : rs ≠ [])
 (h : AllReadyJ P md ops Q S s fuel listed a w rs) : wpAnyJ P md ops Q S s (fuel + 1) listed a w := ⟨fun h0 => absurd (hr ▸ h0) hne, hr ▸ h⟩
theorem wp_region_J {id : Nat} {a : Act} {w : World} (S : World → Prop) (s : Nat) (hm : P.follows .mixedOrders = true) (hS : S w.drew)
 (h : TillJ S s (Array.replicate ops.size false) w.drew → wpAnyJ P .any ops Q S s ops.size (Array.replicate ops.size false) a w.drew) : (Code.region id ops true).wp P Q a w :=
 wp_region_any hm (wpAny_of_J _ _ _ _ (h fun _ => hS))
end
def nonceC (b x : Bs) : Int := if 2048 < b.length then 2 else if x.length = 32 then 0 else 3
def nonceG (b x : Bs) : Bs := if nonceC b x = 0 then sha (b ++ x) else []
def NonP (b x : Bs) (w : World) (e : Ending) (w' : World) : Prop := ∃ v, e = .returned (.tuple #[v, .int .i64 (nonceC b x)]) ∧ OwnB w' w.heap.size v (nonceG b x) ∧ Below w.heap.size w w'
theorem non_bad {b x : Bs} {c : Int} (h : nonceC b x = c) (hc : c ≠ 0) {w w' : World} {e : Ending} (he : e = .returned (.tuple #[.slice none 0 0, .int .i64 c])) (hb : Below w.heap.size w w') : NonP b x w e w' := by
 refine ⟨.slice none 0 0, by rw [h]; exact he, ?_, hb⟩
 rw [nonceG, h, if_neg hc]
 exact World.ownsRow_nil _ _ _ 1
theorem non_ok {b x : Bs} {C : Int} {G : Bs} (h : nonceC b x = C) (hg : nonceG b x = G) {w w' : World} {v : Value} (f : OwnB w' w.heap.size v G) (hb : Below w.heap.size w w') : NonP b x w (.returned (.tuple #[v, .int .i64 C])) w' :=
 ⟨v, by rw [h], by rw [hg]; exact f, hb⟩
set_option maxRecDepth 100000 in
theorem nonce_any (B B2 : Nat) (u u2 : Value) (b x : Bs) (w : World) (hu : SeesB w B u b) (hB : B ≤ w.heap.size) (hu2 : SeesB w B2 u2 x) (hB2 : B2 ≤ w.heap.size) :
 Calls Tryz.prog 116 #[u, u2] w (NonP b x w) := by
 have s1 := hu.more hB
 have s2 := hu2.more hB2
 obtain ⟨A, c, rfl, -, -⟩ := hu.mk_
 obtain ⟨A2, c2, rfl, -, -⟩ := hu2.mk_
 clear hu hu2
 by_cases h1 : 2048 < b.length
 · have hc : nonceC b x = 2 := by rw [nonceC, if_pos h1]
   have i0 : (2048 : Int) < (b.length : Int) := by omega
   replace hc := Lib.hid hc
   go_enter Tryz.func116, Tryz.ntmps116
   go_wp2_with fail
   go_returns
   exact non_bad hc.out (by decide) rfl (Below.refl _ _)
 · have i0 : ¬ (2048 : Int) < (b.length : Int) := by omega
   by_cases h2 : x.length = 32
   · have hc : nonceC b x = 0 := by rw [nonceC, if_neg h1, if_pos h2]
     have hg : Hid (nonceG b x = sha (b ++ x)) := by show _ = _; rw [nonceG, if_pos hc]
     have i1 : ((x.length : Int) != 32) = false := by simp; omega
     replace h2 := Lib.hid h2
     have hal := balloc w (.cells #[.slice A b.length c, .slice A2 x.length c2] 34)
     have hlit := seesL_lit w 34 (show SeesAll w w.heap.size [.slice A b.length c, .slice A2 x.length c2] [b, x] from ⟨s1, s2, trivial⟩) (by simp [maxLen])
     have hfl : [b, x].flatten = b ++ x := by simp
     have hbx : (b ++ x).length ≤ 1099511627776 := by rw [List.length_append]; have := h2.out; omega
     have hj := join_any _ _ _ _ hlit (Nat.le_refl _) (by rw [hfl]; exact hbx)
     rw [hfl] at hj
     generalize b ++ x = bx at *
     replace hj := Lib.hid hj
     replace hc := Lib.hid hc
     replace hbx := Lib.hid hbx
     clear s1 s2 hlit hfl
     go_enter Tryz.func116, Tryz.ntmps116
     go_wp2_with fail
     refine hj.out.mono ?_
     rintro e w1 ⟨v1, rfl, f1, hb1⟩
     have hs := Lib.hid (sum_any _ _ bx w1 f1.sees (Nat.le_refl _) hbx.out)
     obtain ⟨A3, c3, rfl, -, -⟩ := f1.sees.mk_
     have hb := Lib.hid (bgo hal hb1)
     clear hj f1 hal hb1
     dsimp only
     go_wp2_with fail
     refine hs.out.mono ?_
     rintro e w2 ⟨v2, rfl, f2, hb2⟩
     dsimp only
     go_wp2_with fail
     go_returns
     exact non_ok hc.out hg.out (f2.mono hb.out.size) (bgo hb.out hb2)
   · have hc : Hid (nonceC b x = 3) := by show _ = _; rw [nonceC, if_neg h1, if_neg h2]
     have i1 : ¬ (x.length : Int) = 32 := by omega
     clear h2
     go_enter Tryz.func116, Tryz.ntmps116
     go_wp2_with fail
     go_returns
     exact non_bad hc.out (by decide) rfl (Below.refl _ _)
def linkS (ls : List (Bs × Bs × Bs)) : List Spec := ls.flatMap fun t => [.byt t.1, .byt t.2.1, .byt t.2.2]
theorem linkS_len (ls : List (Bs × Bs × Bs)) : (linkS ls).length = ls.length * 3 := by
 induction ls with
 | nil => rfl
 | cons a r ih => simp only [linkS, List.flatMap_cons, List.length_append, List.length_cons, List.length_nil] at *; omega
theorem linkS_get (ls : List (Bs × Bs × Bs)) : ∀ (k : Nat) (t : Bs × Bs × Bs), ls[k]? = some t → (linkS ls)[k * 3]? = some (.byt t.1) ∧ (linkS ls)[k * 3 + 1]? = some (.byt t.2.1) ∧ (linkS ls)[k * 3 + 2]? = some (.byt t.2.2) := by
 induction ls with
 | nil => intro k t h; simp at h
 | cons a r ih =>
   intro k t h
   cases k with
   | zero =>
     simp at h
     subst h
     exact ⟨rfl, rfl, rfl⟩
   | succ k =>
     rw [List.getElem?_cons_succ] at h
     obtain ⟨h1, h2, h3⟩ := ih k t h
     rw [show (k + 1) * 3 = k * 3 + 3 by omega, show k * 3 + 3 + 1 = k * 3 + 1 + 3 by omega, show k * 3 + 3 + 2 = k * 3 + 2 + 3 by omega]
     exact ⟨h1, h2, h3⟩
theorem linkS_append (a b : List (Bs × Bs × Bs)) : linkS (a ++ b) = linkS a ++ linkS b := by simp [linkS]
theorem link_at {w : World} {B n c : Nat} {A : Option Addr} {ls : List (Bs × Bs × Bs)} (h : SeesR w B (.slice A n c) 3 n (linkS ls)) (k : Nat) (t : Bs × Bs × Bs) (hk : ls[k]? = some t) :
 ∃ b o A1 c1 A2 c2 A3 c3, A = some ⟨b, o, none⟩ ∧ b < B ∧ w.cell? ⟨b, o + k * 3, none⟩ = some (.slice A1 t.1.length c1) ∧ SeesB w B (.slice A1 t.1.length c1) t.1 ∧
  w.cell? ⟨b, o + k * 3 + 1, none⟩ = some (.slice A2 t.2.1.length c2) ∧ SeesB w B (.slice A2 t.2.1.length c2) t.2.1 ∧ w.cell? ⟨b, o + k * 3 + 2, none⟩ = some (.slice A3 t.2.2.length c3) ∧ SeesB w B (.slice A3 t.2.2.length c3) t.2.2 := by
 have hl := h.1
 rw [linkS_len] at hl
 have hkl := (List.getElem?_eq_some_iff.1 hk).1
 obtain ⟨b, o, e, hb, hc⟩ := h.at_ (by omega)
 obtain ⟨g1, g2, g3⟩ := linkS_get ls k t hk
 obtain ⟨u1, d1, f1⟩ := hc _ _ g1
 obtain ⟨u2, d2, f2⟩ := hc _ _ g2
 obtain ⟨u3, d3, f3⟩ := hc _ _ g3
 have f1 : SeesB w B u1 t.1 := f1
 have f2 : SeesB w B u2 t.2.1 := f2
 have f3 : SeesB w B u3 t.2.2 := f3
 obtain ⟨A1, c1, rfl, -, -⟩ := f1.mk_
 obtain ⟨A2, c2, rfl, -, -⟩ := f2.mk_
 obtain ⟨A3, c3, rfl, -, -⟩ := f3.mk_
 exact ⟨b, o, A1, c1, A2, c2, A3, c3, e, hb, d1, f1, by rw [Nat.add_assoc]; exact d2, f2, by rw [Nat.add_assoc]; exact d3, f3⟩
def lastA (ls : List (Bs × Bs × Bs)) : Bs := match ls.getLast? with
 | none => []
 | some t => t.2.2
theorem lastA_get (ls : List (Bs × Bs × Bs)) (m : Nat) (t : Bs × Bs × Bs) (hm : ls.length = m + 1) (h : ls[m]? = some t) : lastA ls = t.2.2 := by
 rw [lastA, List.getLast?_eq_getElem?, hm, Nat.add_sub_cancel, h]
abbrev LinkG := Bs × Bs × Bs
def linkT (ls : List LinkG) (i : Nat) : LinkG := ls.getD i ([], [], [])
def linkN (ls : List LinkG) (i : Nat) : Bs := nonceG (lastA (ls.take i)) (linkT ls i).2.1
def linkC (ls : List LinkG) (i : Nat) : Int :=
 if nonceC (lastA (ls.take i)) (linkT ls i).2.1 = 0 then dverC (linkT ls i).1 (linkN ls i) (linkT ls i).2.2 else nonceC (lastA (ls.take i)) (linkT ls i).2.1
def linkV (ls : List LinkG) (i : Nat) : Int × Int := (dverLo (linkT ls i).1 (linkN ls i) (linkT ls i).2.2, dverHi (linkT ls i).1 (linkN ls i) (linkT ls i).2.2)
def firstC (ls : List LinkG) : Nat → Int
 | 0 => 0
 | k + 1 => if firstC ls k = 0 then linkC ls k else firstC ls k
def cverC (ls : List LinkG) : Int := if 8 < ls.length then 8 else firstC ls ls.length
def cverK (ls : List LinkG) (k : Nat) : List (Int × Int) := (List.range k).map (linkV ls)
def cverV (ls : List LinkG) : List (Int × Int) := if cverC ls = 0 then cverK ls ls.length else []
def spanS (vs : List (Int × Int)) : List Spec := vs.flatMap fun v => [.val (.int .i64 v.1), .val (.int .i64 v.2)]
theorem spanS_len (vs : List (Int × Int)) : (spanS vs).length = vs.length * 2 := by
 induction vs with
 | nil => rfl
 | cons a r ih => simp only [spanS, List.flatMap_cons, List.length_append, List.length_cons, List.length_nil] at *; omega
theorem cverK_len (ls : List LinkG) (k : Nat) : (cverK ls k).length = k := by simp [cverK]
theorem first_ok (ls : List LinkG) (k : Nat) (h : firstC ls k = 0) : firstC ls (k + 1) = linkC ls k := by rw [firstC, if_pos h]
theorem first_bad (ls : List LinkG) (k n : Nat) (h : firstC ls k = 0) (hc : linkC ls k ≠ 0) (hn : k < n) : firstC ls n = linkC ls k := by
 induction n with
 | zero => omega
 | succ n ih =>
   rw [firstC]
   by_cases e : k = n
   · subst e
     rw [if_pos h]
   · rw [ih (by omega), if_neg hc]
def CVerP (ls : List LinkG) (w : World) (e : Ending) (w' : World) : Prop :=
 ∃ v, e = .returned (.tuple #[v, .int .i64 (cverC ls)]) ∧ SeesR w' w'.heap.size v 2 (cverV ls).length (spanS (cverV ls)) ∧ Below w.heap.size w w'
theorem cver_bad {ls : List LinkG} {c : Int} (h : cverC ls = c) (hc : c ≠ 0) {w w' : World} (hb : Below w.heap.size w w') : CVerP ls w (.returned (.tuple #[.slice none 0 0, .int .i64 c])) w' := by
 refine ⟨_, by rw [h], ?_, hb⟩
 rw [cverV, if_neg (by rw [h]; exact hc)]
 exact SeesR.nil _ _ _
theorem cver_ok {ls : List LinkG} (h : cverC ls = 0) {w w' : World} {v : Value} (hs : SeesR w' w'.heap.size v 2 ls.length (spanS (cverK ls ls.length))) (hb : Below w.heap.size w w') : CVerP ls w (.returned (.tuple #[v, .int .i64 0])) w' := by
 refine ⟨v, by rw [h], ?_, hb⟩
 rw [cverV, if_pos h, cverK_len]
 exact hs
theorem span_info : (Tryz.prog.info? 23).map (fun i => (i.zero, i.size, i.bytes)) = some (some (.agg #[.int .i64 0, .int .i64 0]), 2, 16) := by kernel_rfl
def OwnRF (w : World) (base : Nat) (T : TypeId) (v : Value) (size n : Nat) (ss : List Spec) : Prop :=
 ss.length = n * size ∧ ∃ vs : List Value, w.ownsRow base T size v n vs ∧ ∀ (k : Nat) (s : Spec), ss[k]? = some s → ∃ u, vs[k]? = some u ∧ EltS w v u s ∧ From base u
theorem OwnRF.own {w : World} {base size n : Nat} {T : TypeId} {v : Value} {ss : List Spec} (h : OwnRF w base T v size n ss) : OwnR w base T v size n ss := by
 obtain ⟨h0, vs, h1, h2⟩ := h
 exact ⟨h0, vs, h1, fun k s hk => by obtain ⟨u, e1, e2, -⟩ := h2 k s hk; exact ⟨u, e1, e2⟩⟩
theorem OwnRF.nil (w : World) (base : Nat) (T : TypeId) (size : Nat) : OwnRF w base T (.slice none 0 0) size 0 [] := ⟨by simp, [], World.ownsRow_nil w base T size, fun k s hk => by simp at hk⟩
theorem OwnRF.below {w w' : World} {base size n : Nat} {T : TypeId} {v : Value} {ss : List Spec} (h : OwnRF w base T v size n ss) (hb : Below w.heap.size w w') : OwnRF w' base T v size n ss := by
 obtain ⟨h0, vs, h1, h2⟩ := h
 exact ⟨h0, vs, own_below h1 hb, fun k s hk => by obtain ⟨u, e1, e2, e3⟩ := h2 k s hk; exact ⟨u, e1, e2.below hb, e3⟩⟩
theorem wp_appRF {o : Oper} {a : Act} {w : World} {K : Act → World → Prop} {Q : Exit → Act → World → Prop} (s x : Operand) (T E : TypeId) (hT : Tryz.prog.underlying T = some (.slice E))
 (ho : o.op = .call { callee := .builtin .append, args := #[s, x], argTypes := #[T, T] }) (i : TypeInfo) (z : Value) (size bytes : Nat) (hi : Tryz.prog.info? E = some i) (hz : i.zero = some z)
 (hsz : i.size = size) (hby : i.bytes = bytes) (hzs : z.cells.size = size) (h0 : 0 < size) (hby2 : bytes ≤ 1024)
 (base : Nat) (v : Value) (n : Nat) (ss : List Spec) (hs : a.eval s = v) (hown : OwnRF w base E v size n ss) (B : Nat) (u : Value) (m : Nat) (vs : List Value) (ts : List Spec) (hx : a.eval x = u) (hr : Sees w B u size m vs)
 (htl : ts.length = m * size) (hel : ∀ (k : Nat) (t : Spec), ts[k]? = some t → ∃ y, vs[k]? = some y ∧ EltS w v y t ∧ From base y)
 (hlen : n + m ≤ 1048576) (hbase : base ≤ w.heap.size)
 (h : ∀ v' w', OwnRF w' base E v' size (n + m) (ss ++ ts) → Below base w w' → w.grownBy w' v.ownBlock → K (a.put o.dst v') w') : o.wp Tryz.prog a w K Q := by
 have hown' := OwnRF.own hown
 obtain ⟨hl0, xs, h1, h2⟩ := hown
 have h1c : ∀ y ∈ vs, y.oneCell' = true := by
  intro y hy
  obtain ⟨k, hk⟩ := List.mem_iff_getElem?.1 hy
  have hkl : k < ts.length := by
   have := (List.getElem?_eq_some_iff.1 hk).1
   rw [hr.1] at this; omega
  obtain ⟨y', e1, e2⟩ := hel k _ (List.getElem?_eq_getElem hkl)
  rw [hk] at e1
  cases e1
  exact e2.1.fit.one
 refine wp_append_sees s x T ho base E i z size bytes hT hi hz hsz hby hzs h0 v n xs hs h1 B u m vs hx hr h1c (by unfold maxLen; omega) (Nat.le_trans (Nat.mul_le_mul hlen hby2) (by omega)) hbase ?_
 intro v' w' g1 g2 g3
 refine h v' w' ⟨by rw [List.length_append, hl0, htl, Nat.add_mul], xs ++ vs, g1, fun k t hk => ?_⟩ (below_ownR hown' g2 hbase) g2
 have hl1 : xs.length = ss.length := by rw [h1.1, hl0]
 have hst : ∀ {y : Value} {t : Spec}, EltS w v y t → EltS w' v' y t := fun {y t} hy => by
  cases t with
  | val x => exact hy
  | byt l => exact ⟨hy.grown g2, fun hm k hk => by
   rcases g3 with e | e
   · rw [e]; exact hy.2 hm k hk
   · rw [e]; intro e2; cases e2; exact absurd (hy.1.blk hm _ hk) (by omega)⟩
 by_cases hkl : k < ss.length
 · rw [List.getElem?_append_left hkl] at hk
   obtain ⟨y, e1, e2⟩ := h2 k t hk
   exact ⟨y, by rw [List.getElem?_append_left (by omega)]; exact e1, hst e2.1, e2.2⟩
 · rw [List.getElem?_append_right (by omega)] at hk
   obtain ⟨y, e1, e2⟩ := hel (k - ss.length) t hk
   exact ⟨y, by rw [List.getElem?_append_right (by omega), hl1]; exact e1, hst e2.1, e2.2⟩
theorem step_appRF {ops : Array Oper} {o : Oper} {a : Act} {w : World} {K : Act → World → Prop} {Q : Exit → Act → World → Prop} {X : Prop} (hgd : o.guard = none) (s x : Operand) (T E : TypeId) (hT : Tryz.prog.underlying T = some (.slice E))
 (ho : o.op = .call { callee := .builtin .append, args := #[s, x], argTypes := #[T, T] }) (i : TypeInfo) (z : Value) (size bytes : Nat) (hi : Tryz.prog.info? E = some i) (hz : i.zero = some z)
 (hsz : i.size = size) (hby : i.bytes = bytes) (hzs : z.cells.size = size) (h0 : 0 < size) (hby2 : bytes ≤ 1024)
 (base : Nat) (v : Value) (n : Nat) (ss : List Spec) (hs : a.eval s = v) (hown : OwnRF w base E v size n ss) (B : Nat) (u : Value) (m : Nat) (vs : List Value) (ts : List Spec) (hx : a.eval x = u) (hr : Sees w B u size m vs)
 (htl : ts.length = m * size) (hel : ∀ (k : Nat) (t : Spec), ts[k]? = some t → ∃ y, vs[k]? = some y ∧ EltS w v y t ∧ From base y)
 (hlen : n + m ≤ 1048576) (hbase : base ≤ w.heap.size)
 (h : ∀ v' w', OwnRF w' base E v' size (n + m) (ss ++ ts) → Below base w w' → w.grownBy w' v.ownBlock → K (a.put o.dst v') w') : if Region.wanted o (yielded ops a.tmps) = true then Oper.wp Tryz.prog o a w K Q else X := by
 have hw : Region.wanted o (yielded ops a.tmps) = true := by simp [Region.wanted, hgd]
 rw [if_pos hw]
 exact wp_appRF s x T E hT ho i z size bytes hi hz hsz hby hzs h0 hby2 base v n ss hs hown B u m vs ts hx hr htl hel hlen hbase h
theorem link_infoC : (Tryz.prog.info? 101).map (fun i => (i.zero, i.size, i.bytes)) = some (some (.agg #[.slice none 0 0, .slice none 0 0, .slice none 0 0]), 3, 72) := by kernel_rfl
section
variable {w w' : World} {base n size : Nat} {T : TypeId} {v : Value} {ss : List Spec}
theorem OwnR.poke {G j : Nat} {T' : TypeId} {v' : Value} {xs : List Value} (h : OwnR w base T v size n ss) (hG : G < base) (hbx : Box w G T' xs) (hno : NoByte xs) : OwnR (w.setCell ⟨G, j, none⟩ v') base T v size n ss := by
 have hlt := h.lt
 obtain ⟨h0, vs, h1, h2⟩ := h
 have hne : v.ownBlock ≠ some G := fun e => by have := (hlt G e).1; omega
 refine ⟨h0, vs, h1.kept (setCell_grown w G j v') (.inr hne), fun k s hk => ?_⟩
 obtain ⟨u, e1, e2⟩ := h2 k s hk
 refine ⟨u, e1, ?_⟩
 cases s with
 | val x => exact e2
 | byt l => exact ⟨SeesB.more (e2.1.stay fun hl k hk p hp => World.cell?_setCell_other w _ p v' (fun e => e2.1.notin hbx hno hl (by rw [hk, ← hp, ← e]))) (by simp [World.setCell]), e2.2⟩
theorem before {w7 X w8 : World} (h : Below w7.heap.size w7 X) (h8 : Below X.heap.size X w8) : w7.heap.size ≤ X.heap.size := h.size
end
def LinkP (t : LinkG) (w : World) (e : Ending) (w' : World) : Prop :=
 ∃ v1 v2 v3, e = .returned (.agg #[v1, v2, v3]) ∧ SeesB w' w'.heap.size v1 t.1 ∧ SeesB w' w'.heap.size v2 t.2.1 ∧ SeesB w' w'.heap.size v3 t.2.2 ∧ From w.heap.size v1 ∧ From w.heap.size v2 ∧ From w.heap.size v3 ∧ Below w.heap.size w w'
theorem boxn {w : World} {g : Nat} {T : TypeId} {xs : List Value} (h : g = w.heap.size) : Box (w.alloc (.cells xs.toArray T)) g T xs := by subst h; exact Box.new w T xs
theorem noB_nils : NoByte [Value.slice none 0 0, .slice none 0 0, .slice none 0 0] := by
 intro x hx n e
 simp only [List.mem_cons, List.not_mem_nil, or_false] at hx
 rcases hx with rfl | rfl | rfl <;> cases e
theorem link_sees {W : World} {g : Nat} {T : TypeId} {u : Value} {l : Bs} (h : Box W g T [.slice none 0 0, .slice none 0 0, .slice none 0 0]) (x y z : Value) (hs : SeesB W W.heap.size u l) : SeesB (((W.setCell ⟨g, 0, none⟩ x).setCell ⟨g, 1, none⟩ y).setCell ⟨g, 2, none⟩ z) (((W.setCell ⟨g, 0, none⟩ x).setCell ⟨g, 1, none⟩ y).setCell ⟨g, 2, none⟩ z).heap.size u l := by
 have hz : (((W.setCell ⟨g, 0, none⟩ x).setCell ⟨g, 1, none⟩ y).setCell ⟨g, 2, none⟩ z).heap.size = W.heap.size := by simp [World.setCell]
 rw [hz]
 exact hs.over (Nat.le_refl _) h noB_nils (ggo (ggo (setCell_grown W g 0 x) (setCell_grown _ g 1 y)) (setCell_grown _ g 2 z))
theorem box_lset3 {W : World} {g : Nat} {T : TypeId} {a b c : Value} (h : Box W g T [a, b, c]) (x y z : Value) : Box (((W.setCell ⟨g, 0, none⟩ x).setCell ⟨g, 1, none⟩ y).setCell ⟨g, 2, none⟩ z) g T [x, y, z] := by
 have k := ((h.set 0 x).set 1 y).set 2 z
 simpa only [List.set_cons_zero, List.set_cons_succ] using k
theorem link_done {t : LinkG} {w W : World} {g : Nat} {T : TypeId} {v1 v2 v3 : Value} (x : Box W g T [.slice none 0 0, .slice none 0 0, .slice none 0 0]) (hg : w.heap.size ≤ g) (s1 : SeesB W W.heap.size v1 t.1) (s2 : SeesB W W.heap.size v2 t.2.1) (s3 : SeesB W W.heap.size v3 t.2.2) (f1 : From w.heap.size v1) (f2 : From w.heap.size v2) (f3 : From w.heap.size v3) (hb : Below w.heap.size w W) :
 LinkP t w (.returned (.agg #[v1, v2, v3])) (((W.setCell ⟨g, 0, none⟩ v1).setCell ⟨g, 1, none⟩ v2).setCell ⟨g, 2, none⟩ v3) :=
 ⟨v1, v2, v3, rfl, link_sees x _ _ _ s1, link_sees x _ _ _ s2, link_sees x _ _ _ s3, f1, f2, f3, ((hb.setCell (p := ⟨g, 0, none⟩) hg _).setCell (p := ⟨g, 1, none⟩) hg _).setCell (p := ⟨g, 2, none⟩) hg _⟩
set_option maxRecDepth 100000 in
set_option maxHeartbeats 8000000 in
theorem rlcopy_any (t : LinkG) (v1 v2 v3 : Value) (w : World) (h1 : SeesB w w.heap.size v1 t.1) (h2 : SeesB w w.heap.size v2 t.2.1) (h3 : SeesB w w.heap.size v3 t.2.2) (l1 : t.1.length ≤ 1048576) (l2 : t.2.1.length ≤ 1048576) (l3 : t.2.2.length ≤ 1048576) :
 Calls Tryz.prog 159 #[.agg #[v1, v2, v3]] w (LinkP t w) := by
 obtain ⟨p, b, a⟩ := t
 dsimp only at *
 obtain ⟨A1, c1, rfl, -, -⟩ := h1.mk_
 obtain ⟨A2, c2, rfl, -, -⟩ := h2.mk_
 obtain ⟨A3, c3, rfl, -, -⟩ := h3.mk_
 have hb := bgo (balloc w (.cells #[.slice A1 p.length c1, .slice A2 b.length c2, .slice A3 a.length c3] 101)) (balloc _ (.cells #[.slice none 0 0, .slice none 0 0, .slice none 0 0] 101))
 have x1 := (Box.new w 101 [.slice A1 p.length c1, .slice A2 b.length c2, .slice A3 a.length c3]).below (balloc _ (.cells #[.slice none 0 0, .slice none 0 0, .slice none 0 0] 101))
 have x2 := Box.new (w.alloc (.cells #[.slice A1 p.length c1, .slice A2 b.length c2, .slice A3 a.length c3] 101)) 101 [.slice none 0 0, .slice none 0 0, .slice none 0 0]
 rw [World.size_alloc] at x2
 change Box ((w.alloc (.cells #[.slice A1 p.length c1, .slice A2 b.length c2, .slice A3 a.length c3] 101)).alloc (.cells #[.slice none 0 0, .slice none 0 0, .slice none 0 0] 101)) _ _ _ at x1 x2
 replace h1 := Lib.hid (seesB_of h1 (Nat.le_refl _) hb)
 replace h2 := Lib.hid (seesB_of h2 (Nat.le_refl _) hb)
 replace h3 := Lib.hid (seesB_of h3 (Nat.le_refl _) hb)
 replace l1 := Lib.hid l1
 replace l2 := Lib.hid l2
 replace l3 := Lib.hid l3
 have hs2 := Lib.hid hb.size
 replace hb := Lib.hid hb
 have hg2 : Hid (w.heap.size < w.heap.size + 1) := by show _ < _; omega
 go_enter Tryz.func159, Tryz.ntmps159
 go_upto_region 1 with (fail)
 generalize (w.alloc (.cells #[.slice A1 p.length c1, .slice A2 b.length c2, .slice A3 a.length c3] 101)).alloc (.cells #[.slice none 0 0, .slice none 0 0, .slice none 0 0] 101) = W0 at *
 have hw2 : Hid (w.heap.size ≤ w.heap.size + 1) := by show _ ≤ _; omega
 generalize w.heap.size + 1 = g2 at x2 hg2 hw2 ⊢
 generalize w.heap.size = g1 at x1 hg2 ⊢
 replace x2 := Lib.hid x2
 obtain ⟨k1, k2, k3, -, -, -⟩ := box3_cells x1
 have K : Hid (∀ W, Below W0.heap.size W0 W → W.cell? ⟨g1, 0, none⟩ = some (.slice A1 p.length c1) ∧ W.cell? ⟨g1, 1, none⟩ = some (.slice A2 b.length c2) ∧ W.cell? ⟨g1, 2, none⟩ = some (.slice A3 a.length c3)) := fun W hW => ⟨(x1.below hW).cell 0, (x1.below hW).cell 1, (x1.below hW).cell 2⟩
 have K3 : Hid (∀ W (y0 y1 y2 : Value), Below W0.heap.size W0 W → (((W.setCell ⟨g2, 0, none⟩ y0).setCell ⟨g2, 1, none⟩ y1).setCell ⟨g2, 2, none⟩ y2).cell? ⟨g1, 0, none⟩ = some (.slice A1 p.length c1) ∧ (((W.setCell ⟨g2, 0, none⟩ y0).setCell ⟨g2, 1, none⟩ y1).setCell ⟨g2, 2, none⟩ y2).cell? ⟨g1, 1, none⟩ = some (.slice A2 b.length c2) ∧ (((W.setCell ⟨g2, 0, none⟩ y0).setCell ⟨g2, 1, none⟩ y1).setCell ⟨g2, 2, none⟩ y2).cell? ⟨g1, 2, none⟩ = some (.slice A3 a.length c3)) := fun W y0 y1 y2 hW => by
  have n1 : g1 ≠ g2 := by have := hg2.out; omega
  have b1 := (((x1.below hW).other (j := 0) (v := y0) n1).other (j := 1) (v := y1) n1).other (j := 2) (v := y2) n1
  exact ⟨b1.cell 0, b1.cell 1, b1.cell 2⟩
 clear x1
 go_region_held3 (fun W' : World => W'.cell? ⟨g1, 0, none⟩ = some (.slice A1 p.length c1) ∧ W'.cell? ⟨g1, 1, none⟩ = some (.slice A2 b.length c2) ∧ W'.cell? ⟨g1, 2, none⟩ = some (.slice A3 a.length c3))
  (first | (with_reducible exact K3.out _ _ _ _ (by (repeat (first | exact Below.refl _ _ | (refine bgo ?_ (balloc _ _)) | (refine bgo ?_ (bdrew _)) | (refine bgo ?_ (by assumption)))))) | (with_reducible exact K.out _ (by (repeat (first | exact Below.refl _ _ | (refine bgo ?_ (balloc _ _)) | (refine bgo ?_ (bdrew _)) | (refine bgo ?_ (by assumption)))))) | (go_keep; done))
  (first
   | (go_at_call 88; have _q := m8; (with_reducible refine (rjone (v := .slice A3 a.length c3) (l := a) (by (repeat (first | exact boxn (by with_reducible rfl) | exact boxn (by simp only [World.size_alloc]; done) | (refine Box.below ?_ (balloc _ _)) | (refine Box.below ?_ (bdrew _)) | (refine Box.below ?_ (by assumption))))) (seesB_of h3.out (Nat.le_refl _) (by (repeat (first | exact Below.refl _ _ | (refine bgo ?_ (balloc _ _)) | (refine bgo ?_ (bdrew _)) | (refine bgo ?_ (by assumption)))))) l3.out).mono ?_); rintro e w9 ⟨v9, rfl, o9, hb9⟩
      obtain ⟨B3, d3, rfl, -, -⟩ := o9.sees.mk_
      have m9 := o9.sees
      have x2r := x2.out.below (show Below W0.heap.size W0 w9 by (repeat (first | exact Below.refl _ _ | (refine bgo ?_ (balloc _ _)) | (refine bgo ?_ (bdrew _)) | (refine bgo ?_ (by assumption)))))
      obtain ⟨y0, y1, y2, f0, f1, f2⟩ := box3_cells x2r)
   | (go_at_call 88; have _q := m7; (with_reducible refine (rjone (v := .slice A2 b.length c2) (l := b) (by (repeat (first | exact boxn (by with_reducible rfl) | exact boxn (by simp only [World.size_alloc]; done) | (refine Box.below ?_ (balloc _ _)) | (refine Box.below ?_ (bdrew _)) | (refine Box.below ?_ (by assumption))))) (seesB_of h2.out (Nat.le_refl _) (by (repeat (first | exact Below.refl _ _ | (refine bgo ?_ (balloc _ _)) | (refine bgo ?_ (bdrew _)) | (refine bgo ?_ (by assumption)))))) l2.out).mono ?_); rintro e w8 ⟨v8, rfl, o8, hb8⟩
      obtain ⟨B2, d2, rfl, -, -⟩ := o8.sees.mk_
      have m8 := o8.sees)
   | (go_at_call 88; (with_reducible refine (rjone (v := .slice A1 p.length c1) (l := p) (by (repeat (first | exact boxn (by with_reducible rfl) | exact boxn (by simp only [World.size_alloc]; done) | (refine Box.below ?_ (balloc _ _)) | (refine Box.below ?_ (bdrew _)) | (refine Box.below ?_ (by assumption))))) (seesB_of h1.out (Nat.le_refl _) (by (repeat (first | exact Below.refl _ _ | (refine bgo ?_ (balloc _ _)) | (refine bgo ?_ (bdrew _)) | (refine bgo ?_ (by assumption)))))) l1.out).mono ?_); rintro e w7 ⟨v7, rfl, o7, hb7⟩
      obtain ⟨B1, d1, rfl, -, -⟩ := o7.sees.mk_
      have m7 := o7.sees))
 all_goals
  go_wp2_with fail
  have kd := Lib.hid (link_done (t := (p, b, a)) x2r hw2.out (seesB_of m7 (Nat.le_refl _) (by (repeat (first | exact Below.refl _ _ | (refine bgo ?_ (balloc _ _)) | (refine bgo ?_ (bdrew _)) | (refine bgo ?_ (by assumption)))))) (seesB_of m8 (Nat.le_refl _) (by (repeat (first | exact Below.refl _ _ | (refine bgo ?_ (balloc _ _)) | (refine bgo ?_ (bdrew _)) | (refine bgo ?_ (by assumption)))))) m9 (o7.from.mono (bgo hb.out (by (repeat (first | exact Below.refl _ _ | (refine bgo ?_ (balloc _ _)) | (refine bgo ?_ (bdrew _)) | (refine bgo ?_ (by assumption)))))).size) (o8.from.mono (bgo hb.out (by (repeat (first | exact Below.refl _ _ | (refine bgo ?_ (balloc _ _)) | (refine bgo ?_ (bdrew _)) | (refine bgo ?_ (by assumption)))))).size) (o9.from.mono (bgo hb.out (by (repeat (first | exact Below.refl _ _ | (refine bgo ?_ (balloc _ _)) | (refine bgo ?_ (bdrew _)) | (refine bgo ?_ (by assumption)))))).size) (bgo hb.out (by (repeat (first | exact Below.refl _ _ | (refine bgo ?_ (balloc _ _)) | (refine bgo ?_ (bdrew _)) | (refine bgo ?_ (by assumption)))))))
  have k := box_lset3 x2r (.slice B1 p.length d1) (.slice B2 b.length d2) (.slice B3 a.length d3)
  clear y0 y1 y2 f0 f1 f2 x2r
  generalize ((w9.setCell ⟨g2, 0, none⟩ (.slice B1 p.length d1)).setCell ⟨g2, 1, none⟩ (.slice B2 b.length d2)).setCell ⟨g2, 2, none⟩ (.slice B3 a.length d3) = W9 at *
  obtain ⟨z0, z1, z2, -, -, -⟩ := box3_cells k
  refine bodyPost_ret (v := .agg #[.slice B1 p.length d1, .slice B2 b.length d2, .slice B3 a.length d3]) (by simp [results, Tryz.results159, go_sem, z0, z1, z2]) rfl ?_
  exact kd.out
end Go.Proofs.YtgehkgjllhkhoaaGreat

namespace Go.Proofs.YtgehkgjllhkhoaaGreat
open Go Go.RowKit
set_option linter.unusedVariables false
theorem putB2 (n : Nat) : putB 2 n = [UInt8.ofNat (n / 256), UInt8.ofNat n] := rfl
theorem getB2 (a b : UInt8) : getB [a, b] = a.toNat * 256 + b.toNat := by
 have := a.toNat_lt
 have := b.toNat_lt
 simp [getB]
 omega
theorem getB_put2 (n : Nat) (h : n < 65536) : getB (putB 2 n) = n := by
 rw [putB2, getB2, UInt8.toNat_ofNat', UInt8.toNat_ofNat']
 omega
theorem putB_get2 (l : Bs) (h : l.length = 2) : putB 2 (getB l) = l := by
 obtain ⟨a, b, rfl⟩ : ∃ a b, l = [a, b] := by
  match l, h with
  | [a, b], _ => exact ⟨a, b, rfl⟩
 have ha := a.toNat_lt
 have hb := b.toNat_lt
 rw [putB2, getB2]
 congr 1
 · apply UInt8.toNat.inj; rw [UInt8.toNat_ofNat']; omega
 · congr 1; apply UInt8.toNat.inj; rw [UInt8.toNat_ofNat']; omega
abbrev Fd := Nat × Bs
def fdB (f : Fd) : Bs := putB 2 f.1 ++ (putB 2 f.2.length ++ f.2)
def wrF (l : List Fd) : Bs := l.flatMap fdB
def okF (f : Fd) : Prop := f.1 < 65536 ∧ f.2.length < 65536
theorem fdB_len (f : Fd) : (fdB f).length = 4 + f.2.length := by unfold fdB; rw [List.length_append, List.length_append, putB_len, putB_len]; omega
theorem wrF_nil : wrF [] = [] := rfl
theorem wrF_cons (f : Fd) (l : List Fd) : wrF (f :: l) = fdB f ++ wrF l := List.flatMap_cons
theorem wrF_append (a b : List Fd) : wrF (a ++ b) = wrF a ++ wrF b := List.flatMap_append
theorem wrF_one (f : Fd) : wrF [f] = fdB f := by rw [wrF_cons, wrF_nil, List.append_nil]
def tyF (r : Bs) : Nat := getB (r.take 2)
def ndF (r : Bs) : Nat := getB ((r.drop 2).take 2)
theorem get2_lt (l : Bs) (h : l.length = 2) : getB l < 65536 := by
 match l, h with
 | [a, b], _ =>
   have := a.toNat_lt
   have := b.toNat_lt
   rw [getB2]
   omega
theorem ndF_lt {r : Bs} (h : 4 ≤ r.length) : ndF r < 65536 := get2_lt _ (by rw [List.length_take, List.length_drop]; omega)
theorem tyF_lt {r : Bs} (h : 4 ≤ r.length) : tyF r < 65536 := get2_lt _ (by rw [List.length_take]; omega)
theorem tyF_fd (f : Fd) (r : Bs) (h : okF f) : tyF (fdB f ++ r) = f.1 := by
 unfold tyF fdB
 rw [List.append_assoc, List.take_left' (putB_len 2 _)]
 exact getB_put2 _ h.1
theorem ndF_fd (f : Fd) (r : Bs) (h : okF f) : ndF (fdB f ++ r) = f.2.length := by
 unfold ndF fdB
 rw [List.append_assoc, List.drop_left' (putB_len 2 _), List.append_assoc, List.take_left' (putB_len 2 _)]
 exact getB_put2 _ h.2
theorem dataF_fd (f : Fd) (r : Bs) : ((fdB f ++ r).drop 4).take f.2.length = f.2 := by
 unfold fdB
 rw [List.append_assoc, List.append_assoc, ← List.append_assoc, List.drop_left' (by rw [List.length_append, putB_len, putB_len]), List.take_left' rfl]
theorem fdB_inj {x y : Fd} {r s : Bs} (hx : okF x) (hy : okF y) (h : fdB x ++ r = fdB y ++ s) : x = y ∧ r = s := by
 have h1 := congrArg tyF h
 have h2 := congrArg ndF h
 rw [tyF_fd x r hx, tyF_fd y s hy] at h1
 rw [ndF_fd x r hx, ndF_fd y s hy] at h2
 have h3 := congrArg (fun z => (z.drop 4).take x.2.length) h
 rw [dataF_fd x r, h2, dataF_fd y s] at h3
 have e : x = y := Prod.ext h1 h3
 subst e
 exact ⟨rfl, List.append_cancel_left h⟩
theorem wrF_inj : ∀ {l l' : List Fd}, (∀ f ∈ l, okF f) → (∀ f ∈ l', okF f) → wrF l = wrF l' → l = l'
 | [], [], _, _, _ => rfl
 | [], y :: l', _, _, h => by
   have := congrArg List.length h
   rw [wrF_cons, List.length_append, fdB_len] at this
   have h0 : (wrF []).length = 0 := rfl
   omega
 | x :: l, [], _, _, h => by
   have := congrArg List.length h
   rw [wrF_cons, List.length_append, fdB_len] at this
   have h0 : (wrF []).length = 0 := rfl
   omega
 | x :: l, y :: l', hx, hy, h => by
   rw [wrF_cons, wrF_cons] at h
   obtain ⟨rfl, h2⟩ := fdB_inj (hx x (List.mem_cons_self ..)) (hy y (List.mem_cons_self ..)) h
   rw [wrF_inj (fun f hf => hx f (List.mem_cons_of_mem _ hf)) (fun f hf => hy f (List.mem_cons_of_mem _ hf)) h2]
theorem wrF_rest : ∀ {out l : List Fd} {r : Bs}, (∀ f ∈ out, okF f) → (∀ f ∈ l, okF f) → wrF l = wrF out ++ r → ∃ l', l = out ++ l' ∧ wrF l' = r
 | [], l, r, _, _, h => ⟨l, rfl, h⟩
 | x :: out, [], r, _, _, h => by
   have := congrArg List.length h
   rw [wrF_cons, List.length_append, List.length_append, fdB_len] at this
   have h0 : (wrF []).length = 0 := rfl
   omega
 | x :: out, y :: l, r, hx, hy, h => by
   rw [wrF_cons, wrF_cons, List.append_assoc] at h
   obtain ⟨rfl, h2⟩ := fdB_inj (hy y (List.mem_cons_self ..)) (hx x (List.mem_cons_self ..)) h
   obtain ⟨l', rfl, h3⟩ := wrF_rest (fun f hf => hx f (List.mem_cons_of_mem _ hf)) (fun f hf => hy f (List.mem_cons_of_mem _ hf)) h2
   exact ⟨l', rfl, h3⟩
theorem field_split {r : Bs} (h1 : 4 ≤ r.length) (h2 : ndF r ≤ r.length - 4) : okF (tyF r, (r.drop 4).take (ndF r)) ∧ r = fdB (tyF r, (r.drop 4).take (ndF r)) ++ r.drop (4 + ndF r) := by
 match r, h1 with
 | a :: b :: c :: d :: t, _ =>
   have h3 : ndF (a :: b :: c :: d :: t) = getB [c, d] := rfl
   have h4 : tyF (a :: b :: c :: d :: t) = getB [a, b] := rfl
   have hl : (t.take (getB [c, d])).length = getB [c, d] := by
    rw [List.length_take]
    rw [h3] at h2
    simp at h2
    omega
   have hac := a.toNat_lt
   have hbc := b.toNat_lt
   have hcc := c.toNat_lt
   have hdc := d.toNat_lt
   have ha : getB [a, b] < 65536 := by rw [getB2]; omega
   have hb : getB [c, d] < 65536 := by rw [getB2]; omega
   rw [h3, h4]
   refine ⟨⟨ha, ?_⟩, ?_⟩
   · show (t.take (getB [c, d])).length < 65536
     rw [hl]; exact hb
   · unfold fdB
     show _ = putB 2 (getB [a, b]) ++ (putB 2 (t.take (getB [c, d])).length ++ t.take (getB [c, d])) ++ _
     rw [hl, putB_get2 _ rfl, putB_get2 _ rfl, Nat.add_comm 4]
     simp
theorem short_no {r : Bs} (h0 : r ≠ []) (h : r.length < 4 ∨ r.length - 4 < ndF r) {l : List Fd} (hl : ∀ f ∈ l, okF f) : wrF l ≠ r := by
 rintro rfl
 match l with
 | [] => exact h0 rfl
 | f :: l =>
   rw [wrF_cons] at h
   rw [ndF_fd f _ (hl f (List.mem_cons_self ..)), List.length_append, fdB_len] at h
   omega
def FieldsR (b : Bs) (o : Option (List Fd)) : Prop :=
 match o with
 | some l => (∀ f ∈ l, okF f) ∧ wrF l = b
 | none => ∀ l, (∀ f ∈ l, okF f) → wrF l ≠ b
theorem FieldsR.uniq {b : Bs} {o o' : Option (List Fd)} (h : FieldsR b o) (h' : FieldsR b o') : o = o' := by
 cases o with
 | none =>
   cases o' with
   | none => rfl
   | some l => exact absurd h'.2 (h l h'.1)
 | some l =>
   cases o' with
   | none => exact absurd h.2 (h' l h.1)
   | some l' => rw [wrF_inj h.1 h'.1 (h.2.trans h'.2.symm)]
theorem fields_no {b : Bs} {out : List Fd} {i : Nat} (ho : ∀ f ∈ out, okF f) (hw : wrF out = b.take i) (h0 : i < b.length) (h : b.length - i < 4 ∨ b.length - i - 4 < ndF (b.drop i)) : FieldsR b none := by
 intro l hl he
 have hb : wrF l = wrF out ++ b.drop i := by rw [he, hw, List.take_append_drop]
 obtain ⟨l', rfl, h3⟩ := wrF_rest ho hl hb
 refine short_no (r := b.drop i) ?_ ?_ (fun f hf => hl f (List.mem_append_right _ hf)) h3
 · intro e; have := congrArg List.length e; rw [List.length_drop] at this; simp at this; omega
 · rw [List.length_drop]; exact h
theorem fields_step {b : Bs} {out : List Fd} {i : Nat} (ho : ∀ f ∈ out, okF f) (hw : wrF out = b.take i) (h1 : 4 ≤ b.length - i) (h2 : ndF (b.drop i) ≤ b.length - i - 4) :
 (∀ f ∈ out ++ [(tyF (b.drop i), ((b.drop i).drop 4).take (ndF (b.drop i)))], okF f) ∧ wrF (out ++ [(tyF (b.drop i), ((b.drop i).drop 4).take (ndF (b.drop i)))]) = b.take (i + 4 + ndF (b.drop i)) := by
 have hr : 4 ≤ (b.drop i).length := by rw [List.length_drop]; exact h1
 obtain ⟨k1, k2⟩ := field_split hr (by rw [List.length_drop]; exact h2)
 refine ⟨fun f hf => ?_, ?_⟩
 · rcases List.mem_append.1 hf with hf | hf
   · exact ho f hf
   · rw [List.mem_singleton.1 hf]; exact k1
 · rw [wrF_append, wrF_one, hw]
   have hl := fdB_len (tyF (b.drop i), ((b.drop i).drop 4).take (ndF (b.drop i)))
   have hm : (((b.drop i).drop 4).take (ndF (b.drop i))).length = ndF (b.drop i) := by rw [List.length_take, List.length_drop, List.length_drop]; omega
   dsimp only at hl
   rw [hm] at hl
   rw [Nat.add_assoc, List.take_add, ← hl]
   congr 1
   exact (List.take_left' rfl).symm.trans (congrArg _ k2.symm)
theorem fields_end {b : Bs} {out : List Fd} {i : Nat} (ho : ∀ f ∈ out, okF f) (hw : wrF out = b.take i) (h0 : b.length ≤ i) : FieldsR b (some out) := ⟨ho, by rw [hw, List.take_of_length_le h0]⟩
abbrev Lk := Bs × Bs × Bs
def lkF (t : Lk) : List Fd := [(1, t.1), (2, t.2.1), (3, t.2.2)]
def encF (ls : List Lk) (f s : Nat) : List Fd := ls.flatMap lkF ++ [(4, [UInt8.ofNat f, UInt8.ofNat s])]
theorem lkF_len (ls : List Lk) : (ls.flatMap lkF).length = 3 * ls.length := by
 induction ls with
 | nil => rfl
 | cons t ls ih => rw [List.flatMap_cons, List.length_append, ih, List.length_cons]; show 3 + _ = _; omega
theorem encF_len (ls : List Lk) (f s : Nat) : (encF ls f s).length = 3 * ls.length + 1 := by unfold encF; rw [List.length_append, lkF_len]; rfl
theorem lkF_get (ls : List Lk) : ∀ (k : Nat) (t : Lk), ls[k]? = some t → (ls.flatMap lkF)[3 * k]? = some (1, t.1) ∧ (ls.flatMap lkF)[3 * k + 1]? = some (2, t.2.1) ∧ (ls.flatMap lkF)[3 * k + 2]? = some (3, t.2.2) := by
 induction ls with
 | nil => intro k t h; simp at h
 | cons a ls ih =>
   intro k t h
   cases k with
   | zero => simp at h; subst h; exact ⟨rfl, rfl, rfl⟩
   | succ k =>
     rw [List.getElem?_cons_succ] at h
     have := ih k t h
     rw [List.flatMap_cons, show 3 * (k + 1) = 3 * k + 1 + 1 + 1 by omega]
     exact this
theorem encF_get {ls : List Lk} {f s k : Nat} {t : Lk} (h : ls[k]? = some t) : (encF ls f s)[3 * k]? = some (1, t.1) ∧ (encF ls f s)[3 * k + 1]? = some (2, t.2.1) ∧ (encF ls f s)[3 * k + 2]? = some (3, t.2.2) := by
 have hk := (List.getElem?_eq_some_iff.1 h).1
 have hl := lkF_len ls
 unfold encF
 rw [List.getElem?_append_left (by omega), List.getElem?_append_left (by omega), List.getElem?_append_left (by omega)]
 exact lkF_get ls k t h
theorem encF_last (ls : List Lk) (f s : Nat) : (encF ls f s)[3 * ls.length]? = some (4, [UInt8.ofNat f, UInt8.ofNat s]) := by
 unfold encF
 rw [List.getElem?_append_right (by rw [lkF_len]; exact Nat.le_refl _), lkF_len, Nat.sub_self]; rfl
def trip (l : List Fd) (k : Nat) : Lk := ((l.getD (3 * k) (0, [])).2, (l.getD (3 * k + 1) (0, [])).2, (l.getD (3 * k + 2) (0, [])).2)
def exK (l : List Fd) (m : Nat) : List Lk := (List.range m).map (trip l)
theorem exK_len (l : List Fd) (m : Nat) : (exK l m).length = m := by simp [exK]
theorem exK_get (l : List Fd) {m k : Nat} (h : k < m) : (exK l m)[k]? = some (trip l k) := by simp [exK, h]
theorem getD_of {l : List Fd} {k : Nat} {x : Fd} (h : l[k]? = some x) : l.getD k (0, []) = x := by rw [List.getD_eq_getElem?_getD, h]; rfl
theorem exK_enc (ls : List Lk) (f s : Nat) : exK (encF ls f s) ls.length = ls := by
 apply List.ext_getElem?
 intro k
 rcases Nat.lt_or_ge k ls.length with h | h
 · obtain ⟨t, ht⟩ : ∃ t, ls[k]? = some t := ⟨_, List.getElem?_eq_getElem h⟩
   obtain ⟨h1, h2, h3⟩ := encF_get (f := f) (s := s) ht
   rw [exK_get _ h, ht]
   unfold trip
   rw [getD_of h1, getD_of h2, getD_of h3]
 · rw [List.getElem?_eq_none h, List.getElem?_eq_none (by rw [exK_len]; exact h)]
theorem ofNat_inj {a b : Nat} (ha : a ≤ 255) (hb : b ≤ 255) (h : UInt8.ofNat a = UInt8.ofNat b) : a = b := by
 have := congrArg UInt8.toNat h
 rw [UInt8.toNat_ofNat', UInt8.toNat_ofNat'] at this
 omega
def DecL (l : List Fd) (o : Option (List Lk × Nat × Nat)) : Prop :=
 match o with
 | some p => l = encF p.1 p.2.1 p.2.2 ∧ p.1.length ≤ 8 ∧ p.2.1 ≤ 255 ∧ p.2.2 ≤ 255
 | none => ∀ (ls : List Lk) (f s : Nat), ls.length ≤ 8 → f ≤ 255 → s ≤ 255 → l ≠ encF ls f s
theorem encF_inj {ls ls' : List Lk} {f f' s s' : Nat} (h1 : f ≤ 255) (h2 : s ≤ 255) (h3 : f' ≤ 255) (h4 : s' ≤ 255) (h : encF ls f s = encF ls' f' s') : ls = ls' ∧ f = f' ∧ s = s' := by
 have e := congrArg List.length h
 rw [encF_len, encF_len] at e
 have e0 : ls.length = ls'.length := by omega
 have e1 : ls = ls' := by rw [← exK_enc ls f s, h, e0, exK_enc]
 subst e1
 have e2 := encF_last ls f s
 rw [h, encF_last] at e2
 injection e2 with e2
 injection e2 with _ e2
 injection e2 with e3 e4
 injection e4 with e4
 exact ⟨rfl, (ofNat_inj h3 h1 e3).symm, (ofNat_inj h4 h2 e4).symm⟩
theorem DecL.uniq {l : List Fd} {o o' : Option (List Lk × Nat × Nat)} (h : DecL l o) (h' : DecL l o') : o = o' := by
 cases o with
 | none =>
   cases o' with
   | none => rfl
   | some p => exact absurd h'.1 (h _ _ _ h'.2.1 h'.2.2.1 h'.2.2.2)
 | some p =>
   cases o' with
   | none => exact absurd h.1 (h' _ _ _ h.2.1 h.2.2.1 h.2.2.2)
   | some p' =>
     obtain ⟨ls, f, s⟩ := p
     obtain ⟨ls', f', s'⟩ := p'
     obtain ⟨rfl, rfl, rfl⟩ := encF_inj h.2.2.1 h.2.2.2 h'.2.2.1 h'.2.2.2 (h.1.symm.trans h'.1)
     rfl
theorem fdec_form {l : List Fd} {ls : List Lk} {f s : Nat} (h : l = encF ls f s) : l.length = 3 * ls.length + 1 ∧ l[3 * ls.length]? = some (4, [UInt8.ofNat f, UInt8.ofNat s]) ∧ exK l ls.length = ls := by
 subst h; exact ⟨encF_len _ _ _, encF_last _ _ _, exK_enc _ _ _⟩
theorem dec_no_len {l : List Fd} (h : l.length % 3 ≠ 1) : DecL l none := fun ls f s _ _ _ e => by have := (fdec_form e).1; omega
theorem dec_no_last {l : List Fd} {m : Nat} {x : Fd} (hm : l.length = 3 * m + 1) (hx : l[3 * m]? = some x) (h : x.1 ≠ 4 ∨ x.2.length ≠ 2) : DecL l none := fun ls f s _ _ _ e => by
 obtain ⟨h1, h2, -⟩ := fdec_form e
 have : ls.length = m := by omega
 rw [this, hx] at h2
 injection h2 with h2
 subst h2
 rcases h with h | h
 · exact h rfl
 · exact h rfl
theorem dec_no_many {l : List Fd} {m : Nat} (hm : l.length = 3 * m + 1) (h : 8 < m) : DecL l none := fun ls f s k _ _ e => by have := (fdec_form e).1; omega
theorem dec_no_type {l : List Fd} {m k : Nat} (hm : l.length = 3 * m + 1) (hk : k < m) (h : (l.getD (3 * k) (0, [])).1 ≠ 1 ∨ (l.getD (3 * k + 1) (0, [])).1 ≠ 2 ∨ (l.getD (3 * k + 2) (0, [])).1 ≠ 3) : DecL l none := fun ls f s _ _ _ e => by
 have hl := (fdec_form e).1
 obtain ⟨t, ht⟩ : ∃ t, ls[k]? = some t := ⟨_, List.getElem?_eq_getElem (by omega)⟩
 obtain ⟨h1, h2, h3⟩ := encF_get (f := f) (s := s) ht
 subst e
 rw [getD_of h1, getD_of h2, getD_of h3] at h
 rcases h with h | h | h <;> exact h rfl
theorem dec_types {l : List Fd} {m : Nat} {a b : UInt8} (hm : l.length = 3 * m + 1) (hx : l[3 * m]? = some (4, [a, b])) (h : ∀ k, k < m → (l.getD (3 * k) (0, [])).1 = 1 ∧ (l.getD (3 * k + 1) (0, [])).1 = 2 ∧ (l.getD (3 * k + 2) (0, [])).1 = 3) : l = encF (exK l m) a.toNat b.toNat := by
 apply List.ext_getElem?
 intro j
 have hel := encF_len (exK l m) a.toNat b.toNat
 rw [exK_len] at hel
 have hsome : ∀ j x, j < l.length → l.getD j (0, []) = x → l[j]? = some x := fun j x hj hx => by
  rw [List.getD_eq_getElem?_getD, List.getElem?_eq_getElem hj] at hx
  rw [List.getElem?_eq_getElem hj]
  exact congrArg some hx
 rcases Nat.lt_trichotomy j (3 * m) with hj | hj | hj
 · obtain ⟨k, hk⟩ : ∃ k, k = j / 3 := ⟨_, rfl⟩
   have hkm : k < m := by omega
   obtain ⟨t1, t2, t3⟩ := h k hkm
   obtain ⟨e1, e2, e3⟩ := encF_get (f := a.toNat) (s := b.toNat) (exK_get l hkm)
   have hj3 : j = 3 * k ∨ j = 3 * k + 1 ∨ j = 3 * k + 2 := by omega
   rcases hj3 with rfl | rfl | rfl
   · rw [e1]; exact hsome _ _ (by omega) (Prod.ext t1 rfl)
   · rw [e2]; exact hsome _ _ (by omega) (Prod.ext t2 rfl)
   · rw [e3]; exact hsome _ _ (by omega) (Prod.ext t3 rfl)
 · subst hj
   have := encF_last (exK l m) a.toNat b.toNat
   rw [exK_len] at this
   rw [hx, this, UInt8.ofNat_toNat, UInt8.ofNat_toNat]
 · rw [List.getElem?_eq_none (by omega), List.getElem?_eq_none (by omega)]
theorem dec_yes {l : List Fd} {m : Nat} {a b : UInt8} (hm : l.length = 3 * m + 1) (h8 : m ≤ 8) (h : l = encF (exK l m) a.toNat b.toNat) : DecL l (some (exK l m, a.toNat, b.toNat)) :=
 ⟨h, by rw [exK_len]; exact h8, by have := a.toNat_lt; show a.toNat ≤ 255; omega, by have := b.toNat_lt; show b.toNat ≤ 255; omega⟩
theorem dec_back {l : List Fd} {m : Nat} {a b : UInt8} (hm : l.length = 3 * m + 1) {x : Fd} (hx : l[3 * m]? = some x) (hab : x.2 = [a, b]) (h : l ≠ encF (exK l m) a.toNat b.toNat) : DecL l none := fun ls f s _ hf hs e => by
 obtain ⟨h1, h2, h3⟩ := fdec_form e
 have e0 : ls.length = m := by omega
 rw [e0] at h2 h3
 rw [hx] at h2
 injection h2 with h2
 subst h2
 dsimp only at hab
 injection hab with k1 k2
 injection k2 with k2
 refine h ?_
 rw [h3, ← k1, ← k2, UInt8.toNat_ofNat', UInt8.toNat_ofNat', Nat.mod_eq_of_lt (by omega), Nat.mod_eq_of_lt (by omega)]
 exact e
theorem fenc_ok {ls : List Lk} {f s : Nat} (h : ∀ t ∈ ls, t.1.length < 65536 ∧ t.2.1.length < 65536 ∧ t.2.2.length < 65536) : ∀ x ∈ encF ls f s, okF x := by
 intro x hx
 unfold encF at hx
 rcases List.mem_append.1 hx with hx | hx
 · obtain ⟨t, ht, hx⟩ := List.mem_flatMap.1 hx
   obtain ⟨h1, h2, h3⟩ := h t ht
   simp only [lkF, List.mem_cons, List.not_mem_nil, or_false] at hx
   rcases hx with rfl | rfl | rfl
   · exact ⟨show 1 < 65536 by omega, h1⟩
   · exact ⟨show 2 < 65536 by omega, h2⟩
   · exact ⟨show 3 < 65536 by omega, h3⟩
 · rw [List.mem_singleton.1 hx]
   exact ⟨show 4 < 65536 by omega, by simp⟩
end Go.Proofs.YtgehkgjllhkhoaaGreat

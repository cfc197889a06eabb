/- Contracts that a law leans on, and its walk. Conditions: those of each theorem. -/
import Derived.Test.YtgehkgjllhkhoaaGreatIHonest
import Derived.Test.YtgehkgjllhkhoaaGreatI1
namespace Go.Proofs.YtgehkgjllhkhoaaGreat
open Go Go.RowKit
set_option linter.unusedVariables false
theorem dans_one_ok {sd2 nn S : Bs} {h2 : Nat} {f t lo hi : Int} (hl : sd2.length = 32) (hh : h2 ≤ 6) (hn : nn.length = 32) (hv : vS lo hi = true) (hS : fitsG S = true) (hw : vS f t = true) (hi' : inS lo hi f t = true) :
 dansR sd2 (h2 : Int) 0 (keyG sd2 h2) f t S [nn] lo hi = (((sd2, (h2 : Int), 1), (keyG sd2 h2, f, t, S)), [wrapB (dencB (keyG sd2 h2) f t S) (ansB [nn] (sigG sd2 h2 0 (tBatch ++ partG [nn] lo hi)) (partG [nn] lo hi) 0)], 0) ∧
  encC (wrapT (ansB [nn] (sigG sd2 h2 0 (tBatch ++ partG [nn] lo hi)) (partG [nn] lo hi) 0) (dencB (keyG sd2 h2) f t S)) = 0 := by
 have hd := dans_first (sd := sd2) (P := keyG sd2 h2) (S := S) (h := (h2 : Int)) (f := f) (t := t) (ns := [nn]) (lo := lo) (hi := hi) hl (by omega) (by omega) (by simp) (by simp) (by intro l hl; simp at hl; rw [hl]; exact hn) hv (keyG_len _ _) hS hw hi'
 rw [Int.toNat_natCast] at hd
 refine ⟨hd, ?_⟩
 have h2' := ansL_props [nn] (sigG sd2 h2 0 (tBatch ++ partG [nn] lo hi)) (partG [nn] lo hi) 1 (ansB [nn] (sigG sd2 h2 0 (tBatch ++ partG [nn] lo hi)) (partG [nn] lo hi) 0) (by simp [ansL])
 have h3 := ans_le [nn] (sigG sd2 h2 0 (tBatch ++ partG [nn] lo hi)) (partG [nn] lo hi) 0 (by rw [sigG_len]; omega) (part_le [nn] lo hi)
 have h4 := denc_le (keyG sd2 h2) f t S (keyG_len _ _) (head_le S hS)
 rw [List.length_singleton] at h3
 exact wrap_fits _ _ h2'.2 (denc_mod _ f t S) (by omega)
theorem pubG_key (sd : Bs) (h : Nat) (hl : sd.length = 32) (hh : h ≤ 6) : pubG sd (h : Int) = keyG sd h := by
 unfold pubG
 rw [if_pos ⟨hl, by omega, by omega⟩, Int.toNat_natCast]
theorem honK_ver {ls : List LinkG} {k : Nat} {lo hi : Int} (h : HonK ls k lo hi) (hk : k < ls.length) (h8 : ls.length ≤ 8) (hel : ∀ t ∈ ls, t.1.length = 32 ∧ t.2.1.length = 32 ∧ t.2.2.length ≤ 2048) (hv : vS lo hi = true) (hin : inS lo hi (-1099511627776) 1099511627776 = true) :
 nextC (ls.take k) (linkT ls k).2.1 = 0 ∧ dverC (linkT ls k).1 (nextG (ls.take k) (linkT ls k).2.1) (linkT ls k).2.2 = 0 ∧ dverLo (linkT ls k).1 (nextG (ls.take k) (linkT ls k).2.1) (linkT ls k).2.2 = lo ∧ dverHi (linkT ls k).1 (nextG (ls.take k) (linkT ls k).2.1) (linkT ls k).2.2 = hi := by
 obtain ⟨sd, sd2, m, l1, l2, m0, m1, e1, e2, e3⟩ := h
 obtain ⟨n1, n2⟩ := next_zero (ls := ls.take k) (x := (linkT ls k).2.1) (fun t ht => hel t (List.mem_of_mem_take ht)) (by rw [List.length_take]; omega) e2
 have p1 : pubG sd 1 = keyG sd 1 := pubG_key sd 1 l1 (by omega)
 have p2 : pubG sd2 0 = keyG sd2 0 := pubG_key sd2 0 l2 (by omega)
 rw [p1] at e1
 rw [p2] at e3
 generalize hS : sigG sd 1 m.toNat (tGrant ++ keyG sd2 0 ++ spanB (-1099511627776) 1099511627776) = S at *
 have hSf : fitsG S = true := by rw [← hS]; exact head_sig _ _ _ _ (by omega)
 obtain ⟨d1, d2⟩ := dans_one_ok (sd2 := sd2) (nn := nextG (ls.take k) (linkT ls k).2.1) (S := S) (h2 := 0) (f := -1099511627776) (t := 1099511627776) (lo := lo) (hi := hi) l2 (by omega) n2 hv hSf wide_vS hin
 have d1' := d1.symm.trans e3
 have ea := (Prod.mk.inj (Prod.mk.inj d1').2).1
 have ea' := (List.cons.inj ea).1
 have hh := dver_honest sd sd2 1 m.toNat 0 0 (-1099511627776) 1099511627776 lo hi [nextG (ls.take k) (linkT ls k).2.1] 0 (by omega) (by show m.toNat < 2; omega) (by omega) (by decide) wide_vS hv hin (by simp) (by simp) n2 S hS.symm d2
 rw [ea'] at hh
 rw [e1]
 exact ⟨n1, hh.1, hh.2.1, hh.2.2⟩
theorem honK_add {ls : List LinkG} {k : Nat} {lo hi : Int} (h : HonK ls k lo hi) (hk : k < ls.length) (h8 : ls.length ≤ 8) (hel : ∀ t ∈ ls, t.1.length = 32 ∧ t.2.1.length = 32 ∧ t.2.2.length ≤ 2048) (hv : vS lo hi = true) (hin : inS lo hi (-1099511627776) 1099511627776 = true) :
 addC (ls.take k) (linkT ls k) = 0 ∧ addV (ls.take k) (linkT ls k) = (lo, hi) ∧ addL (ls.take k) (linkT ls k) = ls.take (k + 1) ∧ linkC ls k = 0 ∧ linkV ls k = (lo, hi) := by
 obtain ⟨a1, a2, a3, a4⟩ := honK_ver h hk h8 hel hv hin
 have ha : addC (ls.take k) (linkT ls k) = 0 := by unfold addC; rw [if_pos a1]; exact a2
 have hl : ¬ 8 ≤ (ls.take k).length := by rw [List.length_take]; omega
 have hc : nextC (ls.take k) (linkT ls k).2.1 = nonceC (lastA (ls.take k)) (linkT ls k).2.1 := by rw [nextC, if_neg hl]
 have hg : nextG (ls.take k) (linkT ls k).2.1 = linkN ls k := by rw [nextG, if_neg hl]; rfl
 refine ⟨ha, ?_, ?_, ?_, ?_⟩
 · unfold addV; rw [if_pos ha, a3, a4]
 · unfold addL; rw [if_pos ha]; exact (take_one ls k _ (linkT_get ls k hk)).symm
 · unfold linkC; rw [← hc, if_pos a1, ← hg]; exact a2
 · unfold linkV; rw [← hg, a3, a4]
theorem linkT_take (ls : List LinkG) (m k : Nat) (h : k < m) : linkT (ls.take m) k = linkT ls k := by
 unfold linkT
 rw [List.getD_eq_getElem?_getD, List.getElem?_take, if_pos h, ← List.getD_eq_getElem?_getD]
theorem take_take' (ls : List LinkG) (m k : Nat) (h : k < m) : (ls.take m).take k = ls.take k := by
 rw [List.take_take, Nat.min_eq_left (by omega)]
theorem linkC_take (ls : List LinkG) (m k : Nat) (h : k < m) : linkC (ls.take m) k = linkC ls k ∧ linkV (ls.take m) k = linkV ls k := by
 have e1 := linkT_take ls m k h
 have e2 := take_take' ls m k h
 have e3 : linkN (ls.take m) k = linkN ls k := by unfold linkN; rw [e1, e2]
 refine ⟨?_, ?_⟩
 · unfold linkC; rw [e1, e2, e3]
 · unfold linkV; rw [e1, e3]
theorem first_zero (ls : List LinkG) (k : Nat) (h : ∀ j, j < k → linkC ls j = 0) : firstC ls k = 0 := by
 induction k with
 | zero => rfl
 | succ k ih => rw [first_ok ls k (ih fun j hj => h j (by omega)), h k (by omega)]
theorem hon_all {ls : List LinkG} {sp : Nat → Int × Int} (h8 : ls.length ≤ 8) (h : ∀ k, k < ls.length → linkC ls k = 0 ∧ linkV ls k = sp k) (m : Nat) (hm : m ≤ ls.length) : cverC (ls.take m) = 0 ∧ cverV (ls.take m) = (List.range m).map sp := by
 have hl : (ls.take m).length = m := by rw [List.length_take]; omega
 have hc : cverC (ls.take m) = 0 := by
  unfold cverC
  rw [if_neg (by omega), hl]
  exact first_zero _ m fun j hj => by rw [(linkC_take ls m j hj).1]; exact (h j (by omega)).1
 refine ⟨hc, ?_⟩
 unfold cverV
 rw [if_pos hc, hl]
 unfold cverK
 refine List.map_congr_left fun j hj => ?_
 have hj' := List.mem_range.1 hj
 rw [(linkC_take ls m j hj').2, (h j (by omega)).2]
end Go.Proofs.YtgehkgjllhkhoaaGreat

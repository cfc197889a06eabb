/- What a law leans on beyond the base: contracts, plain functions, walks. Conditions: those of each theorem. -/
import Derived.Test.YtjgepckncogdaaaGreatZC3
set_option linter.unusedVariables false
set_option linter.unusedSimpArgs false
namespace Go.Proofs.YtjgepckncogdaaaGreat
open Go Go.RowKit
set_option linter.unusedVariables false
theorem un_putH (x : Int) (h0 : -9223372036854775808 ≤ x) (h1 : x ≤ 9223372036854775807) : wrap64 ((getB (putB 8 (u64 x)) : Nat) : Int) = x := by
 rw [getB_val, valB_put, show 256 ^ 8 = 18446744073709551616 from by decide]
 have := u64_lt x
 rw [Nat.mod_mod, Nat.mod_eq_of_lt this]
 unfold u64 wrap64
 omega
theorem un_loH (lo hi : Int) (h0 : -9223372036854775808 ≤ lo) (h1 : lo ≤ 9223372036854775807) : unLo (spanB lo hi) = lo := by
 unfold unLo spanB
 rw [List.take_append_of_le_length (by rw [putB_len]; omega), List.take_of_length_le (by rw [putB_len]; omega)]
 exact un_putH lo h0 h1
theorem un_hiH (lo hi : Int) (h0 : -9223372036854775808 ≤ hi) (h1 : hi ≤ 9223372036854775807) : unHi (spanB lo hi) = hi := by
 unfold unHi spanB
 rw [List.drop_append_of_le_length (by rw [putB_len]; omega), List.drop_of_length_le (by rw [putB_len]; omega), List.nil_append]
 exact un_putH hi h0 h1
theorem un_okH (lo hi : Int) (h : vS lo hi = true) : unLo (spanB lo hi) = lo ∧ unHi (spanB lo hi) = hi ∧ unOk (spanB lo hi) = true := by
 have h2 := h
 unfold vS at h2
 simp only [decide_eq_true_eq] at h2
 have e1 := un_loH lo hi (by omega) (by omega)
 have e2 := un_hiH lo hi (by omega) (by omega)
 refine ⟨e1, e2, ?_⟩
 unfold unOk
 rw [e1, e2, h]
 simp [spanB, putB_len]
theorem rtags_ok (ns : List Bs) (lo hi : Int) : encC (rootTags ns lo hi) = 0 := by
 have hr : (rootG (ns.map leafH)).length = 32 := rootG_len _ (leafs_len ns)
 have hc : checkT [] (rootTags ns lo hi) = 0 := by
  have e1 : namedG nROOT = true := by decide
  have e2 : namedG nSPAN = true := by decide
  have o1 : (Op.bytesLess nROOT [] || nROOT == []) = false := by decide
  have o2 : (Op.bytesLess nSPAN nROOT || nSPAN == nROOT) = false := by decide
  have d1 : (rootG (ns.map leafH)).length % 4 = 0 := by omega
  have d2 : (spanB lo hi).length % 4 = 0 := by rw [spanB_len]
  simp only [rootTags, checkT, e1, e2, o1, o2, d1, d2, if_true, Bool.false_eq_true, if_false]
 have hl : (bodyT (rootTags ns lo hi)).length ≤ 2048 := by
  rw [bodyT_len _ (fun x hx => (checkT_ok _ _ hc x hx).1) (by simp [rootTags])]
  simp only [rootTags, dataT, List.map_cons, List.map_nil, List.flatten_cons, List.flatten_nil, List.length_append, List.length_nil, List.length_cons, spanB_len, hr]
  omega
 unfold encC
 rw [if_neg (by simp [rootTags]), if_pos hc, if_neg (by omega)]
theorem atags_ok (ns : List Bs) (S part : Bs) (i : Nat) (hS : S.length ≤ 757) (hp : part.length ≤ 64) (hp4 : part.length % 4 = 0) (hn : ns.length ≤ 16) : encC (ansTags i ns.length (pathG (ns.map leafH) i).flatten S part) = 0 := by
 obtain ⟨p1, p2, p3⟩ := pathF_len ns i
 have h1 := pad4_len S
 have h2 := putB_len 4 i
 have h3 := putB_len 4 ns.length
 have hc : checkT [] (ansTags i ns.length (pathG (ns.map leafH) i).flatten S part) = 0 := by
  have e1 : namedG nINDX = true := by decide
  have e2 : namedG nNUMB = true := by decide
  have e3 : namedG nPATH = true := by decide
  have e4 : namedG nSIGN = true := by decide
  have e5 : namedG nSREP = true := by decide
  have o1 : (Op.bytesLess nINDX [] || nINDX == []) = false := by decide
  have o2 : (Op.bytesLess nNUMB nINDX || nNUMB == nINDX) = false := by decide
  have o3 : (Op.bytesLess nPATH nNUMB || nPATH == nNUMB) = false := by decide
  have o4 : (Op.bytesLess nSIGN nPATH || nSIGN == nPATH) = false := by decide
  have o5 : (Op.bytesLess nSREP nSIGN || nSREP == nSIGN) = false := by decide
  have d1 : (putB 4 i).length % 4 = 0 := by omega
  have d2 : (putB 4 ns.length).length % 4 = 0 := by omega
  have d3 : (pathG (ns.map leafH) i).flatten.length % 4 = 0 := by omega
  have d4 : (pad4 S).length % 4 = 0 := by omega
  simp only [ansTags, checkT, e1, e2, e3, e4, e5, o1, o2, o3, o4, o5, d1, d2, d3, d4, hp4, if_true, Bool.false_eq_true, if_false]
 have hl : (bodyT (ansTags i ns.length (pathG (ns.map leafH) i).flatten S part)).length ≤ 2048 := by
  rw [bodyT_len _ (fun x hx => (checkT_ok _ _ hc x hx).1) (by simp [ansTags])]
  simp only [ansTags, dataT, List.map_cons, List.map_nil, List.flatten_cons, List.flatten_nil, List.length_append, List.length_nil, List.length_cons]
  omega
 unfold encC
 rw [if_neg (by simp [ansTags]), if_pos hc, if_neg (by omega)]
theorem part_mod (ns : List Bs) (lo hi : Int) : (partG ns lo hi).length % 4 = 0 := encT_mod _
theorem part_back (ns : List Bs) (lo hi : Int) (hv : vS lo hi = true) : datN (partG ns lo hi) 0 = rootG (ns.map leafH) ∧ datN (partG ns lo hi) 1 = spanB lo hi ∧ contOk (partG ns lo hi) = true := by
 obtain ⟨d1, d2⟩ := dec_enc _ (rtags_ok ns lo hi)
 have e0 : datN (partG ns lo hi) 0 = rootG (ns.map leafH) := by unfold datN partG; rw [d2]; rfl
 have e1 : datN (partG ns lo hi) 1 = spanB lo hi := by unfold datN partG; rw [d2]; rfl
 refine ⟨e0, e1, ?_⟩
 have hr : (rootG (ns.map leafH)).length = 32 := rootG_len _ (leafs_len ns)
 unfold contOk
 rw [e0, e1, (un_okH lo hi hv).2.2, decide_eq_true hr]
 unfold partG
 rw [d2]
 rfl
theorem bver_honest (sd : Bs) (h m : Nat) (ns : List Bs) (i : Nat) (lo hi : Int) (hh : h ≤ 6) (hm : m < 2 ^ h) (hn : ns.length ≤ 16) (hi' : i < ns.length) (h32 : (ns.getD i []).length = 32) (hv : vS lo hi = true) :
 bverC (keyG sd h) (ns.getD i []) (ansB ns (sigG sd h m (tBatch ++ partG ns lo hi)) (partG ns lo hi) i) = 0 ∧
 bverLo (keyG sd h) (ns.getD i []) (ansB ns (sigG sd h m (tBatch ++ partG ns lo hi)) (partG ns lo hi) i) = lo ∧
 bverHi (keyG sd h) (ns.getD i []) (ansB ns (sigG sd h m (tBatch ++ partG ns lo hi)) (partG ns lo hi) i) = hi := by
 have hSl := sigG_len sd h m (tBatch ++ partG ns lo hi)
 have hSf := head_sig sd h m (tBatch ++ partG ns lo hi) hh
 have hver := verify_sig sd h m (tBatch ++ partG ns lo hi) hh hm (by have := partG_len ns lo hi; rw [List.length_append]; show 13 + _ ≤ _; omega)
 obtain ⟨c0, c1, cO⟩ := part_back ns lo hi hv
 obtain ⟨u1, u2, u3⟩ := un_okH lo hi hv
 have henc := atags_ok ns (sigG sd h m (tBatch ++ partG ns lo hi)) (partG ns lo hi) i (by omega) (part_le ns lo hi) (part_mod ns lo hi) hn
 obtain ⟨d1, d2⟩ := dec_enc _ henc
 generalize hS : sigG sd h m (tBatch ++ partG ns lo hi) = S at *
 obtain ⟨p1, p2, p3⟩ := pathF_len ns i
 have hb : ansB ns S (partG ns lo hi) i = encT (ansTags i ns.length (pathG (ns.map leafH) i).flatten S (partG ns lo hi)) := rfl
 rw [← hb] at d1 d2
 generalize ansB ns S (partG ns lo hi) i = b at *
 have k0 : datN b 0 = putB 4 i := by unfold datN; rw [d2]; rfl
 have k1 : datN b 1 = putB 4 ns.length := by unfold datN; rw [d2]; rfl
 have k2 : datN b 2 = (pathG (ns.map leafH) i).flatten := by unfold datN; rw [d2]; rfl
 have k3 : datN b 3 = pad4 S := by unfold datN; rw [d2]; rfl
 have k4 : datN b 4 = partG ns lo hi := by unfold datN; rw [d2]; rfl
 have ku := fits_unpad S hSf
 have hok : parseOk b = true := by
  unfold parseOk
  rw [k0, k1, k2, k3, k4, ku, cO, putB_len, putB_len, p3, d2, decide_eq_true (show 32 * (pathG (ns.map leafH) i).length % 32 = 0 by omega)]
  rfl
 have hpc : parseC b = 0 := by unfold parseC; rw [if_pos d1, if_pos hok]
 have hsig : bsigOk (keyG sd h) b = true := by
  unfold bsigOk sigN
  rw [k3, k4, ku]
  exact hver
 have hpath : bpathOk (ns.getD i []) b = true := by
  unfold bpathOk pathN
  rw [k0, k1, k2, k4, c0, getB_put4 _ (by omega), getB_put4 _ (by omega), checkI_in _ _ _ _ _ (by omega) (by omega) hi']
  have hc := cutL_flat 32 (pathG (ns.map leafH) i) [] p2
  rw [List.append_nil] at hc
  rw [p3, show 32 * (pathG (ns.map leafH) i).length / 32 = (pathG (ns.map leafH) i).length by omega, hc]
  have hcl := climb_path _ (ns.map leafH) i [] (Nat.le_refl _) (by rw [List.length_map]; exact hi')
  rw [List.length_map, List.append_nil] at hcl
  have hg : (ns.map leafH).getD i [] = leafH (ns.getD i []) := by
   rw [List.getD_eq_getElem?_getD, List.getElem?_map, List.getElem?_eq_getElem hi', List.getD_eq_getElem?_getD, List.getElem?_eq_getElem hi']
   rfl
  rw [hg] at hcl
  unfold checkG
  rw [hcl]
  simp
 have hC : bverC (keyG sd h) (ns.getD i []) b = 0 := by
  unfold bverC
  rw [if_pos h32, if_pos hpc, if_pos hsig, if_pos hpath]
 refine ⟨hC, ?_, ?_⟩
 · unfold bverLo; rw [if_pos hC, k4, c1, u1]
 · unfold bverHi; rw [if_pos hC, k4, c1, u2]
end Go.Proofs.YtjgepckncogdaaaGreat

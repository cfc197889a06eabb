/- What a law leans on beyond the base: contracts, plain functions, walks. Conditions: those of each theorem. -/
import Derived.Test.YtjgepckncogdaaaGreatZVecT
import Derived.Test.YtjgepckncogdaaaGreatZHonest
set_option linter.unusedVariables false
set_option linter.unusedSimpArgs false
namespace Go.Proofs.YtjgepckncogdaaaGreat
open Go Go.RowKit
set_option linter.unusedVariables false
theorem pathG_set (m : Nat) : ∀ (hs : List Bs) (i : Nat) (x : Bs), hs.length ≤ m → i < hs.length → pathG (hs.set i x) i = pathG hs i := by
 induction m with
 | zero => intro hs i x hm hi; omega
 | succ m ih =>
   intro hs i x hm hi
   by_cases h2 : 2 ≤ hs.length
   · have h2' : 2 ≤ (hs.set i x).length := by rw [List.length_set]; exact h2
     have hsp := splitN_lt hs.length h2
     by_cases hk : i < splitN hs.length
     · rw [pathG_left _ i h2' (by rw [List.length_set]; exact hk), pathG_left hs i h2 hk, List.length_set, List.take_set, List.drop_set, if_pos hk, ih _ i x (by rw [List.length_take]; omega) (by rw [List.length_take]; omega)]
     · rw [pathG_right _ i h2' (by rw [List.length_set]; exact hk), pathG_right hs i h2 hk, List.length_set, List.drop_set, if_neg hk, List.take_set, ih _ _ x (by rw [List.length_drop]; omega) (by rw [List.length_drop]; omega), List.set_eq_of_length_le (by rw [List.length_take]; omega)]
   · rw [pathG_one _ _ h2, pathG_one _ _ (by rw [List.length_set]; exact h2)]
theorem bver_other (n' : Bs) (h32' : n'.length = 32) (sd : Bs) (h m : Nat) (ns : List Bs) (i : Nat) (lo hi : Int) (hh : h ≤ 6) (hm : m < 2 ^ h) (hn : ns.length ≤ 16) (hi' : i < ns.length) (hr : rootG ((ns.map leafH).set i (leafH n')) ≠ rootG (ns.map leafH)) (hv : vS lo hi = true) :
 bverC (keyG sd h) n' (ansB ns (sigG sd h m (tBatch ++ partG ns lo hi)) (partG ns lo hi) i) = 23 := by
 have hSl := sigG_len sd h m (tBatch ++ partG ns lo hi)
 have hSf := head_sig sd h m (tBatch ++ partG ns lo hi) hh
 have hver := verify_sig sd h m (tBatch ++ partG ns lo hi) hh hm (by have := partG_len ns lo hi; rw [List.length_append]; show 13 + _ ≤ _; omega)
 obtain ⟨c0, c1, cO⟩ := part_back ns lo hi hv
 obtain ⟨u1, u2, u3⟩ := un_okH lo hi hv
 have henc := atags_ok ns (sigG sd h m (tBatch ++ partG ns lo hi)) (partG ns lo hi) i (by omega) (part_le ns lo hi) (part_mod ns lo hi) hn
 obtain ⟨d1, d2⟩ := dec_enc _ henc
 generalize hS : sigG sd h m (tBatch ++ partG ns lo hi) = S at *
 obtain ⟨p1, p2, p3⟩ := pathF_len ns i
 have hb : ansB ns S (partG ns lo hi) i = encT (ansTags i ns.length (pathG (ns.map leafH) i).flatten S (partG ns lo hi)) := rfl
 rw [← hb] at d1 d2
 generalize ansB ns S (partG ns lo hi) i = b at *
 have k0 : datN b 0 = putB 4 i := by unfold datN; rw [d2]; rfl
 have k1 : datN b 1 = putB 4 ns.length := by unfold datN; rw [d2]; rfl
 have k2 : datN b 2 = (pathG (ns.map leafH) i).flatten := by unfold datN; rw [d2]; rfl
 have k3 : datN b 3 = pad4 S := by unfold datN; rw [d2]; rfl
 have k4 : datN b 4 = partG ns lo hi := by unfold datN; rw [d2]; rfl
 have ku := fits_unpad S hSf
 have hok : parseOk b = true := by
  unfold parseOk
  rw [k0, k1, k2, k3, k4, ku, cO, putB_len, putB_len, p3, d2, decide_eq_true (show 32 * (pathG (ns.map leafH) i).length % 32 = 0 by omega)]
  rfl
 have hpc : parseC b = 0 := by unfold parseC; rw [if_pos d1, if_pos hok]
 have hsig : bsigOk (keyG sd h) b = true := by
  unfold bsigOk sigN
  rw [k3, k4, ku]
  exact hver
 have hpath : bpathOk n' b = false := by
  unfold bpathOk pathN
  rw [k0, k1, k2, k4, c0, getB_put4 _ (by omega), getB_put4 _ (by omega), checkI_in _ _ _ _ _ (by omega) (by omega) hi']
  have hc := cutL_flat 32 (pathG (ns.map leafH) i) [] p2
  rw [List.append_nil] at hc
  rw [p3, show 32 * (pathG (ns.map leafH) i).length / 32 = (pathG (ns.map leafH) i).length by omega, hc]
  have hil : i < (ns.map leafH).length := by rw [List.length_map]; exact hi'
  have hcl := climb_path _ ((ns.map leafH).set i (leafH n')) i [] (Nat.le_refl _) (by rw [List.length_set]; exact hil)
  rw [pathG_set _ _ _ _ (Nat.le_refl _) hil, List.length_set, List.length_map, List.append_nil] at hcl
  have hg : ((ns.map leafH).set i (leafH n')).getD i [] = leafH n' := by
   rw [List.getD_eq_getElem?_getD, List.getElem?_set_self hil]; rfl
  rw [hg] at hcl
  unfold checkG
  rw [hcl]
  simp [hr]
 unfold bverC
 rw [if_pos h32', if_pos hpc, if_pos hsig, if_neg (by rw [hpath]; simp)]
theorem sp2 : splitN 2 = 1 := splitN_of 2 0 (by omega) (by omega) (by omega)
theorem sp3 : splitN 3 = 2 := splitN_of 3 1 (by omega) (by omega) (by omega)
theorem sp4 : splitN 4 = 2 := splitN_of 4 1 (by omega) (by omega) (by omega)
theorem sp5 : splitN 5 = 4 := splitN_of 5 2 (by omega) (by omega) (by omega)
theorem root1 (a : Bs) : rootG [a] = a := rootG_one a
theorem root2 (a b : Bs) : rootG [a, b] = nodeH a b := by
 rw [rootG_two _ (by simp), show [a, b].length = 2 from rfl, sp2]
 show nodeH (rootG [a]) (rootG [b]) = _
 rw [root1, root1]
theorem root3 (a b c : Bs) : rootG [a, b, c] = nodeH (nodeH a b) c := by
 rw [rootG_two _ (by simp), show [a, b, c].length = 3 from rfl, sp3]
 show nodeH (rootG [a, b]) (rootG [c]) = _
 rw [root2, root1]
theorem root4 (a b c d : Bs) : rootG [a, b, c, d] = nodeH (nodeH a b) (nodeH c d) := by
 rw [rootG_two _ (by simp), show [a, b, c, d].length = 4 from rfl, sp4]
 show nodeH (rootG [a, b]) (rootG [c, d]) = _
 rw [root2, root2]
theorem root5 (a b c d e : Bs) : rootG [a, b, c, d, e] = nodeH (nodeH (nodeH a b) (nodeH c d)) e := by
 rw [rootG_two _ (by simp), show [a, b, c, d, e].length = 5 from rfl, sp5]
 show nodeH (rootG [a, b, c, d]) (rootG [e]) = _
 rw [root4, root1]
theorem tel_roots (q n i : Nat) (hq : q < 100) (h2 : 2 ≤ n) (h5 : n ≤ 5) (hi : i < n) :
 rootG (((List.range n).map fun j => leafH (V.seedB (1000 * q + j))).set i (leafH (V.seedB (1000 * q + (i + 1) % n)))) ≠ rootG ((List.range n).map fun j => leafH (V.seedB (1000 * q + j))) := by
 have hrun := V.runT_100
 rw [V.runT_eq, show V.pack (fun i => 0 + 1000 * i) 100 = V.pack (fun i => (1000 * i) % 4294000000) 100 from V.pack_congr _ _ _ fun i hi => by rw [Nat.zero_add, Nat.mod_eq_of_lt (by omega)]] at hrun
 have H := V.treeV_eq 100 (fun i => (1000 * i) % 4294000000) (fun i => by have := Nat.mod_lt (1000 * i) (show 4294000000 > 0 by decide); omega) hrun q hq
 rw [Nat.mod_eq_of_lt (show 1000 * q < 4294000000 by omega)] at H
 obtain ⟨hH11, hH00, hA30, hA31, hA32, hA40, hA41, hA42, hA43, hA50, hA51, hA52, hA53, hA54⟩ := H
 obtain rfl | rfl | rfl | rfl : n = 2 ∨ n = 3 ∨ n = 4 ∨ n = 5 := by omega
 · obtain rfl | rfl : i = 0 ∨ i = 1 := by omega
   · show rootG [leafH (V.seedB (1000 * q + 1)), leafH (V.seedB (1000 * q + 1))] ≠ rootG [leafH (V.seedB (1000 * q + 0)), leafH (V.seedB (1000 * q + 1))]
     rw [root2, root2]
     exact (hH11).symm
   · show rootG [leafH (V.seedB (1000 * q + 0)), leafH (V.seedB (1000 * q + 0))] ≠ rootG [leafH (V.seedB (1000 * q + 0)), leafH (V.seedB (1000 * q + 1))]
     rw [root2, root2]
     exact (hH00).symm
 · obtain rfl | rfl | rfl : i = 0 ∨ i = 1 ∨ i = 2 := by omega
   · show rootG [leafH (V.seedB (1000 * q + 1)), leafH (V.seedB (1000 * q + 1)), leafH (V.seedB (1000 * q + 2))] ≠ rootG [leafH (V.seedB (1000 * q + 0)), leafH (V.seedB (1000 * q + 1)), leafH (V.seedB (1000 * q + 2))]
     rw [root3, root3]
     exact (hA30).symm
   · show rootG [leafH (V.seedB (1000 * q + 0)), leafH (V.seedB (1000 * q + 2)), leafH (V.seedB (1000 * q + 2))] ≠ rootG [leafH (V.seedB (1000 * q + 0)), leafH (V.seedB (1000 * q + 1)), leafH (V.seedB (1000 * q + 2))]
     rw [root3, root3]
     exact (hA31).symm
   · show rootG [leafH (V.seedB (1000 * q + 0)), leafH (V.seedB (1000 * q + 1)), leafH (V.seedB (1000 * q + 0))] ≠ rootG [leafH (V.seedB (1000 * q + 0)), leafH (V.seedB (1000 * q + 1)), leafH (V.seedB (1000 * q + 2))]
     rw [root3, root3]
     exact (hA32).symm
 · obtain rfl | rfl | rfl | rfl : i = 0 ∨ i = 1 ∨ i = 2 ∨ i = 3 := by omega
   · show rootG [leafH (V.seedB (1000 * q + 1)), leafH (V.seedB (1000 * q + 1)), leafH (V.seedB (1000 * q + 2)), leafH (V.seedB (1000 * q + 3))] ≠ rootG [leafH (V.seedB (1000 * q + 0)), leafH (V.seedB (1000 * q + 1)), leafH (V.seedB (1000 * q + 2)), leafH (V.seedB (1000 * q + 3))]
     rw [root4, root4]
     exact (hA40).symm
   · show rootG [leafH (V.seedB (1000 * q + 0)), leafH (V.seedB (1000 * q + 2)), leafH (V.seedB (1000 * q + 2)), leafH (V.seedB (1000 * q + 3))] ≠ rootG [leafH (V.seedB (1000 * q + 0)), leafH (V.seedB (1000 * q + 1)), leafH (V.seedB (1000 * q + 2)), leafH (V.seedB (1000 * q + 3))]
     rw [root4, root4]
     exact (hA41).symm
   · show rootG [leafH (V.seedB (1000 * q + 0)), leafH (V.seedB (1000 * q + 1)), leafH (V.seedB (1000 * q + 3)), leafH (V.seedB (1000 * q + 3))] ≠ rootG [leafH (V.seedB (1000 * q + 0)), leafH (V.seedB (1000 * q + 1)), leafH (V.seedB (1000 * q + 2)), leafH (V.seedB (1000 * q + 3))]
     rw [root4, root4]
     exact (hA42).symm
   · show rootG [leafH (V.seedB (1000 * q + 0)), leafH (V.seedB (1000 * q + 1)), leafH (V.seedB (1000 * q + 2)), leafH (V.seedB (1000 * q + 0))] ≠ rootG [leafH (V.seedB (1000 * q + 0)), leafH (V.seedB (1000 * q + 1)), leafH (V.seedB (1000 * q + 2)), leafH (V.seedB (1000 * q + 3))]
     rw [root4, root4]
     exact (hA43).symm
 · obtain rfl | rfl | rfl | rfl | rfl : i = 0 ∨ i = 1 ∨ i = 2 ∨ i = 3 ∨ i = 4 := by omega
   · show rootG [leafH (V.seedB (1000 * q + 1)), leafH (V.seedB (1000 * q + 1)), leafH (V.seedB (1000 * q + 2)), leafH (V.seedB (1000 * q + 3)), leafH (V.seedB (1000 * q + 4))] ≠ rootG [leafH (V.seedB (1000 * q + 0)), leafH (V.seedB (1000 * q + 1)), leafH (V.seedB (1000 * q + 2)), leafH (V.seedB (1000 * q + 3)), leafH (V.seedB (1000 * q + 4))]
     rw [root5, root5]
     exact (hA50).symm
   · show rootG [leafH (V.seedB (1000 * q + 0)), leafH (V.seedB (1000 * q + 2)), leafH (V.seedB (1000 * q + 2)), leafH (V.seedB (1000 * q + 3)), leafH (V.seedB (1000 * q + 4))] ≠ rootG [leafH (V.seedB (1000 * q + 0)), leafH (V.seedB (1000 * q + 1)), leafH (V.seedB (1000 * q + 2)), leafH (V.seedB (1000 * q + 3)), leafH (V.seedB (1000 * q + 4))]
     rw [root5, root5]
     exact (hA51).symm
   · show rootG [leafH (V.seedB (1000 * q + 0)), leafH (V.seedB (1000 * q + 1)), leafH (V.seedB (1000 * q + 3)), leafH (V.seedB (1000 * q + 3)), leafH (V.seedB (1000 * q + 4))] ≠ rootG [leafH (V.seedB (1000 * q + 0)), leafH (V.seedB (1000 * q + 1)), leafH (V.seedB (1000 * q + 2)), leafH (V.seedB (1000 * q + 3)), leafH (V.seedB (1000 * q + 4))]
     rw [root5, root5]
     exact (hA52).symm
   · show rootG [leafH (V.seedB (1000 * q + 0)), leafH (V.seedB (1000 * q + 1)), leafH (V.seedB (1000 * q + 2)), leafH (V.seedB (1000 * q + 4)), leafH (V.seedB (1000 * q + 4))] ≠ rootG [leafH (V.seedB (1000 * q + 0)), leafH (V.seedB (1000 * q + 1)), leafH (V.seedB (1000 * q + 2)), leafH (V.seedB (1000 * q + 3)), leafH (V.seedB (1000 * q + 4))]
     rw [root5, root5]
     exact (hA53).symm
   · show rootG [leafH (V.seedB (1000 * q + 0)), leafH (V.seedB (1000 * q + 1)), leafH (V.seedB (1000 * q + 2)), leafH (V.seedB (1000 * q + 3)), leafH (V.seedB (1000 * q + 0))] ≠ rootG [leafH (V.seedB (1000 * q + 0)), leafH (V.seedB (1000 * q + 1)), leafH (V.seedB (1000 * q + 2)), leafH (V.seedB (1000 * q + 3)), leafH (V.seedB (1000 * q + 4))]
     rw [root5, root5]
     exact (hA54).symm
theorem rands_seed (q n : Nat) (hq : q < 100) (hn : n ≤ 5) : randsK (q : Int) 32 n = (List.range n).map fun j => V.seedB (1000 * q + j) := by
 unfold randsK
 refine List.map_congr_left fun j hj => ?_
 have hj' : j < n := by simpa using hj
 rw [V.seedB_rand _ (by omega)]
 congr 1
 unfold wrap64
 omega
theorem tel_other (q n i : Nat) (hq : q < 100) (h2 : 2 ≤ n) (h5 : n ≤ 5) (hi : i < n) :
 rootG (((randsK (q : Int) 32 n).map leafH).set i (leafH ((randsK (q : Int) 32 n).getD ((i + 1) % n) []))) ≠ rootG ((randsK (q : Int) 32 n).map leafH) := by
 have hlt : (i + 1) % n < n := Nat.mod_lt _ (by omega)
 have hg : (randsK (q : Int) 32 n).getD ((i + 1) % n) [] = V.seedB (1000 * q + (i + 1) % n) := by
  rw [rands_seed q n hq h5, List.getD_eq_getElem?_getD, List.getElem?_map, List.getElem?_range hlt]; rfl
 rw [hg, rands_seed q n hq h5, List.map_map]
 exact tel_roots q n i hq h2 h5 hi
end Go.Proofs.YtjgepckncogdaaaGreat

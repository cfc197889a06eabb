/- What a law leans on beyond the base: contracts, plain functions, walks. Conditions: those of each theorem. -/
import Derived.Test.YtgehkgjllhkhoaaGreatH28
set_option linter.unusedVariables false
set_option linter.unusedSimpArgs false
namespace Go.Proofs.YtgehkgjllhkhoaaGreat
open Go Go.RowKit
set_option linter.unusedVariables false
attribute [local go_sem ↓] Go.wp_at_zero Go.wp_at_succ
set_option maxRecDepth 100000 in
theorem rget_any (B : Nat) (u : Value) (l : Bs) (w : World) (hu : SeesB w B u l) :
 Calls Tryz.prog 213 #[u] w fun e w' => e = .returned (.int .u64 (getB l : Int)) ∧ w' = w := by
 obtain ⟨A, c, rfl, hc1, hc2⟩ := hu.mk_
 have hm : l.length ≤ 9223372036854775807 := by unfold maxLen at hc2; omega
 go_enter Tryz.func213, Tryz.ntmps213
 go_wp2_with fail
 go_loopw [3, 4] (fun x i wr => ∃ k : Nat, k ≤ l.length ∧ x = .int .u64 (getB (l.take k) : Int) ∧ i = .int .i64 k ∧ wr = w) (fun _ i _ => l.length - (intOf i).toNat)
 case atStart => exact ⟨0, by omega, rfl, rfl, rfl⟩
 case round =>
  obtain ⟨k, hk, rfl, rfl, rfl⟩ := hrel
  have hnext : k < l.length → getB (l.take (k + 1)) = (getB (l.take k) * 256 + (l.getD k 0).toNat) % 18446744073709551616 := fun h => by
   rw [List.take_succ_eq_append_getElem h, getB_snoc, List.getD_eq_getElem?_getD, List.getElem?_eq_getElem h]; rfl
  have hall : ¬ k < l.length → getB (l.take k) = getB l := fun h => by rw [List.take_of_length_le (by omega)]
  have HN := Lib.hid hnext
  have HA := Lib.hid hall
  clear hnext hall
  generalize getB (l.take k) = v at *
  by_cases hlt : k < l.length
  · obtain ⟨b, o, rfl, hb, hcell⟩ := hu.at_ (by omega)
    have x0 := hcell k hlt
    have hst := Lib.hid (get_step' v (l.getD k 0))
    have hn := HN.out hlt
    have HN2 := Lib.hid hn
    clear hn HN
    unfold byV at x0
    generalize l.getD k 0 = x at x0 hst HN2
    clear hcell hu
    have i0 : (0 : Int) ≤ (k : Int) := by omega
    have i1 : (k : Int) < (l.length : Int) := by omega
    go_wp2_with fail
    go_roundw
    case rel => exact ⟨k + 1, by omega, by rw [hst.out, HN2.out], by go_num, trivial⟩
    case measure => simp [intOf]; omega
  · have he := Lib.hid (HA.out hlt)
    go_wp2_with fail
    go_ret
    exact ⟨ret_int (by rw [he.out]), rfl⟩
end Go.Proofs.YtgehkgjllhkhoaaGreat
namespace Go.Proofs.YtgehkgjllhkhoaaGreat
open Go.ChangeShapes Go.WideShapes Go.ChangeAt Go.RowKit
section
variable {H : Type} {enc : TypeId × Value → H} {w : World} {base : Nat} {r : Reach} {v : Value} {d : DataW H} {ps : List MemPlace}
theorem cells_uint8 : Tryz.prog.cellsOf 5 = 1 := by kernel_rfl
theorem byte_of (n : Int) (h0 : 0 ≤ n) (h1 : n < 256) : Value.int .u8 n = byV (UInt8.ofNat n.toNat) := by
 unfold byV
 rw [UInt8.toNat_ofNat', Nat.mod_eq_of_lt (by omega)]
 congr 1
 omega
set_option maxRecDepth 100000 in
theorem open_bytes (hval : Value.okWide Tryz.prog w r base 34 v) (h : DataW.Trod enc Tryz.prog w 0 (fun _ => true) true 34 v d ps) : ∃ l : Bs, SeesB w w.heap.size v l := by
 obtain ⟨a0, len, cap, rfl⟩ := okWide_slice Tryz.underlying34 hval
 obtain ⟨fuel, hf⟩ := h
 rcases open_ints Tryz.underlying34 Tryz.underlying5 cells_uint8 hf with ⟨hcs, hx⟩ | ⟨a, len', cap', zs, hcs, _, hl, hm, hz, hx, hcell, hwz⟩
 · simp [Value.cells] at hcs
   obtain ⟨rfl, rfl, rfl⟩ := hcs
   exact ⟨[], SeesB.nil _ _⟩
 · simp [Value.cells] at hcs
   obtain ⟨rfl, rfl, rfl⟩ := hcs
   simp only [if_true] at hz
   have hlen : ((zs.take len).map fun n => UInt8.ofNat n.toNat).length = len := by simp; omega
   refine ⟨(zs.take len).map fun n => UInt8.ofNat n.toNat, ?_⟩
   unfold SeesB
   rw [hlen]
   refine ⟨by rw [vb_len, hlen, Nat.mul_one], some a, cap, rfl, hl, hm, fun h0 => ?_⟩
   obtain ⟨b, off, spot⟩ := a
   have hc := hcell 0 (by omega)
   have hspot : spot = none := by simpa [Addr.add] using World.cell?_spot hc
   subst hspot
   refine ⟨b, off, rfl, ?_, fun j u hj => ?_⟩
   · rcases Nat.lt_or_ge b w.heap.size with h1 | h1
     · exact h1
     · exfalso
       have h0 : w.heap[b]? = none := Array.getElem?_eq_none h1
       unfold World.cell? at hc
       rw [add_zero'] at hc
       simp only [h0] at hc
       simp at hc
   · rw [vb_get] at hj
     obtain ⟨x, hx, rfl⟩ := Option.map_eq_some_iff.1 hj
     rw [List.getElem?_map] at hx
     obtain ⟨n, hn, rfl⟩ := Option.map_eq_some_iff.1 hx
     have hj2 : j < len := by
      have := (List.getElem?_eq_some_iff.1 hn).1
      rw [List.length_take] at this; omega
     rw [List.getElem?_take, if_pos hj2] at hn
     have hc := hcell j (by omega)
     have hw := hwz n (List.mem_of_getElem? hn)
     rw [add_zero', List.getD_eq_getElem?_getD, hn, Option.getD_some] at hc
     have hb := bounds_u8 hw
     rw [hc, byte_of n hb.1 (by omega)]
end
theorem hashes_size (w : World) : (sizeOf 34).run Tryz.prog w = .ok 1 w := slice_size w
def DividePost (A : Option Addr) (n c : Nat) (w : World) (e : Ending) (w' : World) : Prop :=
 e = .returned (.tuple #[.slice A (splitN n) c, .slice (cutA A c (splitN n) 1) (n - splitN n) (c - splitN n)]) ∧ ∃ k, w' = w.drewN k
set_option maxRecDepth 100000 in
theorem divide_any (A : Option Addr) (n c : Nat) (w : World) (h2 : 2 ≤ n) (hn : n ≤ 1024) (hc : n ≤ c) (hm : c ≤ maxLen) :
 Calls Tryz.prog 204 #[.slice A n c] w (DividePost A n c w) := by
 obtain ⟨k1, k2, k3⟩ := splitN_lt n h2
 have hh := Lib.hid (half_any n w h2 hn)
 unfold DividePost
 generalize splitN n = k at *
 have r2 := run_cut_from (P := Tryz.prog) 185 Tryz.underlying185 1 hashes_size A n c .i64 (k : Int) (by omega) (by omega)
 rw [Int.toNat_natCast] at r2
 generalize cutA A c k 1 = A2 at r2 ⊢
 have j0 : (0 : Int) ≤ (k : Int) := by omega
 have j1 : (k : Int) ≤ (c : Int) := by omega
 have j2 : (k : Int) ≤ (n : Int) := by omega
 go_enter Tryz.func204, Tryz.ntmps204
 go_wp2_with fail
 refine hh.out.mono ?_
 rintro e w0 ⟨rfl, rfl⟩
 dsimp only
 go_wp2_with fail
 go_quiet (fail)
 go_wp2_with fail
 go_returns
 exact ⟨rfl, _, rfl⟩
set_option maxRecDepth 100000 in
theorem root_any (m : Nat) : ∀ (ls : List Bs) (B : Nat) (u : Value) (w : World), ls.length ≤ m → SeesL w B u ls → B ≤ w.heap.size → ls.length ≤ 1024 → (∀ l ∈ ls, l.length = 32) →
 Calls Tryz.prog 163 #[u] w (Gives (rootG ls) w) := by
 induction m with
 | zero =>
   intro ls B u w hm hu hB hn hl
   obtain rfl : ls = [] := List.eq_nil_of_length_eq_zero (by omega)
   obtain ⟨A, c, rfl, hc1, hc2⟩ := hu.mk_
   have hs := Lib.hid (sum_any B (.slice none 0 0) [] w (SeesB.nil _ _) hB (by simp))
   go_enter Tryz.func163, Tryz.ntmps163
   go_wp2_with fail
   refine hs.out.mono ?_
   rintro e w1 ⟨v, rfl, h1, hb1⟩
   dsimp only
   go_wp2_with fail
   go_ret
   exact ⟨v, rfl, by rw [rootG_nil]; exact h1, hb1⟩
 | succ m ih =>
   intro ls B u w hm hu hB hn hl
   by_cases h0 : ls.length ≤ m
   · exact ih ls B u w h0 hu hB hn hl
   · have hlen : ls.length = m + 1 := by omega
     by_cases hm0 : m = 0
     · subst hm0
       obtain ⟨A, c, rfl, hc1, hc2⟩ := hu.mk_
       match ls, hlen, hu, hl with
       | [x], _, hu, hl =>
         obtain ⟨b, o, rfl, hb, hcell⟩ := hu.at_ (by simp)
         obtain ⟨A', c', x0, g1, g2, hsee⟩ := hcell 0 (by simp)
         rw [Nat.add_zero] at x0
         have hs := Lib.hid (clone_any B _ _ w hsee hB (by have := hl x (by simp); simp; omega))
         clear hcell hsee hu ih hl
         simp only [List.getD_cons_zero, List.length_cons, List.length_nil] at *
         go_enter Tryz.func163, Tryz.ntmps163
         go_wp2_with fail
         refine hs.out.mono ?_
         rintro e w1 ⟨v, rfl, h1, hb1⟩
         dsimp only
         go_wp2_with fail
         go_ret
         exact ⟨v, rfl, by rw [rootG_one]; exact h1, hb1⟩
     · obtain ⟨A, c, rfl, hc1, hc2⟩ := hu.mk_
       have h2 : 2 ≤ ls.length := by omega
       obtain ⟨k1, k2, k3⟩ := splitN_lt ls.length h2
       have hdv := divide_any A ls.length c w h2 hn hc1 hc2
       unfold DividePost at hdv
       have hroot : Hid (rootG ls = nodeH (rootG (ls.take (splitN ls.length))) (rootG (ls.drop (splitN ls.length)))) := rootG_two ls h2
       generalize splitN ls.length = k at *
       obtain ⟨b, o, rfl, hbB, -⟩ := hu.at_ (by omega)
       have c1 := SeesL.cut (a := 0) (b := k) hu (by omega) (by omega)
       have c2 := SeesL.cut (a := k) (b := ls.length) hu (by omega) (Nat.le_refl _)
       rw [cutA_zero, Nat.sub_zero, Nat.sub_zero, List.drop_zero] at c1
       rw [List.take_of_length_le (by rw [List.length_drop]; omega)] at c2
       generalize cutA (some ⟨b, o, none⟩) c k 1 = A2 at hdv c2
       have l1 : ∀ x ∈ ls.take k, x.length = 32 := fun x hx => hl x (List.mem_of_mem_take hx)
       have l2 : ∀ x ∈ ls.drop k, x.length = 32 := fun x hx => hl x (List.mem_of_mem_drop hx)
       have n1 : (ls.take k).length ≤ m := by rw [List.length_take]; omega
       have n2 : (ls.drop k).length ≤ m := by rw [List.length_drop]; omega
       have g1 := Lib.hid (fun q => ih (ls.take k) B _ (w.drewN q) n1 (SeesL.below c1 (below_drewN (Below.refl B w) q)) hB (by omega) l1)
       have g2 := Lib.hid (fun (W : World) (hbW : Below w.heap.size w W) => ih (ls.drop k) B _ W n2 (SeesL.below c2 (hbW.mono hB)) (Nat.le_trans hB hbW.size) (by omega) l2)
       have q1 := rootG_len _ l1
       have q2 := rootG_len _ l2
       have j3 : ¬ ((ls.length : Int) = 0) := by omega
       have j4 : ¬ ((ls.length : Int) = 1) := by omega
       have hlm : Hid (ls.length = m + 1) := hlen
       replace hdv := Lib.hid hdv
       clear ih c1 c2 hu hlen
       go_enter Tryz.func163, Tryz.ntmps163
       go_wp2_with fail
       refine hdv.out.mono ?_
       rintro e w0 ⟨rfl, q, rfl⟩
       dsimp only
       go_wp2_with fail
       refine (g1.out q).mono ?_
       rintro e w1 ⟨v1, rfl, h1, hb1⟩
       have hb1' : Below w.heap.size w w1 := (below_drewN (Below.refl _ _) q).trans hb1
       dsimp only
       go_wp2_with fail
       refine (g2.out w1 hb1').mono ?_
       rintro e w2 ⟨v2, rfl, h2', hb2⟩
       dsimp only
       go_wp2_with fail
       refine (node_any w2.heap.size _ _ _ _ w2 (h1.below hb2).sees h2'.sees (Nat.le_refl _) (by omega) (by omega)).mono ?_
       rintro e w3 ⟨v3, rfl, h3, hb3⟩
       dsimp only
       go_wp2_with fail
       go_ret
       exact ⟨v3, rfl, by rw [hroot.out]; exact h3.mono (bgo hb1' hb2).size, bgo (bgo hb1' hb2) hb3⟩
theorem make_hashes (n : Nat) (hn : n ≤ 1048576) (w : World) : (Instr.makeSlice 185 (.int .i64 (n : Int)) (.int .i64 (n : Int))).run Tryz.prog w = .ok (.slice (some ⟨w.heap.size, 0, none⟩) n n) (w.alloc (.cells (List.replicate n (Value.slice none 0 0)).toArray 34)) := by
 obtain ⟨i, hi, hz, hs, hb⟩ := info_parts slice_info
 have h := run_make (P := Tryz.prog) w 185 34 i (.slice none 0 0) Tryz.underlying185 hi hz .i64 .i64 n n (by omega) (by omega) (by rw [hb]; omega) (by omega)
 rw [h, hs]
 simp only [Int.toNat_natCast, Nat.mul_one]
 rw [← toList_madeCells_one]
 rfl
def ShowsL (ls : List Bs) (w : World) (e : Ending) (w' : World) : Prop := ∃ v, e = .returned v ∧ SeesL w' w'.heap.size v ls ∧ Below w.heap.size w w'
set_option maxRecDepth 100000 in
theorem of_any (ls : List Bs) (B : Nat) (u : Value) (w : World) (hu : SeesL w B u ls) (hB : B ≤ w.heap.size) (hn : ls.length ≤ 1024) (hl : ∀ l ∈ ls, l.length ≤ 1048576) :
 Calls Tryz.prog 142 #[u] w (ShowsL (ls.map leafH) w) := by
 obtain ⟨A, c, rfl, hc1, hc2⟩ := hu.mk_
 have hmk := make_hashes ls.length (by omega)
 replace hu := Lib.hid hu
 go_enter Tryz.func142, Tryz.ntmps142
 go_wp2_with fail
 refine wp_fresh (fun W => W.ownsRow w.heap.size 34 1 (.slice (some ⟨w.heap.size, 0, none⟩) ls.length ls.length) ls.length (List.replicate ls.length (Value.slice none 0 0)) ∧ Below w.heap.size w W ∧ w.heap.size < W.heap.size) ⟨World.ownsRow_lit (base := w.heap.size) (size := 1) w (List.replicate ls.length (Value.slice none 0 0)).toArray ls.length (Nat.le_refl _) (by unfold maxLen; omega) (by simp), (Below.refl _ _).alloc (Nat.le_refl _) _, by simp⟩ ?_
 rintro W0 ⟨ho, hb, hlt0⟩
 replace ho := Lib.hid ho
 replace hb := Lib.hid hb
 obtain ⟨g, hg⟩ : ∃ g, g = w.heap.size := ⟨_, rfl⟩
 rw [← hg] at ho hlt0 ⊢
 replace hg := Lib.hid hg
 clear hmk
 go_loopw [4, 5, 11] (fun _ _ t wr => ∃ (k : Nat) (vs : List Value), k ≤ ls.length ∧ t = .int .i64 k ∧ Hid (wr.ownsRow g 34 1 (.slice (some ⟨g, 0, none⟩) ls.length ls.length) ls.length vs) ∧ Hid (∀ j, j < k → ∃ v, vs[j]? = some v ∧ OwnB wr (g + 1) v (leafH (ls.getD j []))) ∧ Hid (Below w.heap.size w wr) ∧ Hid (g < wr.heap.size)) (fun _ _ t _ => ls.length - (intOf t).toNat)
 case atStart => exact ⟨0, _, by omega, rfl, ho, fun j hj => absurd hj (by omega), hb, hlt0⟩
 case round =>
  clear ho hb hlt0
  obtain ⟨k, vs, hk, rfl, ho, hv, hb, hgl⟩ := hrel
  by_cases hlt : k < ls.length
  · obtain ⟨b, o, rfl, hbB, hcell⟩ := hu.out.at_ (by omega)
    obtain ⟨A', c', hc, g1, g2, hsee⟩ := hcell k hlt
    have x0 := (hb.out.cell (p := ⟨b, o + k, none⟩) (by dsimp only; omega)).trans hc
    have hlk : (ls.getD k []).length ≤ 1048576 := by
     rw [List.getD_eq_getElem?_getD, List.getElem?_eq_getElem hlt]; exact hl _ (List.getElem_mem hlt)
    have hlf := Lib.hid (leaf_any B _ _ wr (hsee.below (hb.out.mono hB)) (Nat.le_trans hB hb.out.size) (by omega))
    obtain ⟨l, hlz⟩ : ∃ l, ls.getD k [] = l := ⟨_, rfl⟩
    rw [hlz] at x0 hlf
    replace hlz := Lib.hid hlz
    clear hc hcell hsee hlk hl g1 g2
    have i0 : (0 : Int) ≤ (k : Int) := by omega
    have i1 : (k : Int) < (ls.length : Int) := by omega
    go_wp2_with fail
    refine hlf.out.mono ?_
    rintro e w2 ⟨v2, rfl, h2, hb2⟩
    have ho2 := own_below ho.out hb2
    obtain ⟨z, hz⟩ : ∃ z, vs[k]? = some z := ⟨vs[k]'(by have := ho2.1; omega), List.getElem?_eq_getElem _⟩
    have y0 : w2.cell? ⟨g, k, none⟩ = some z := (ho2.cellAt k (by omega)).trans hz
    have f0 := ho2.frozenAt k
    obtain ⟨A2, c2, rfl, -, -⟩ := h2.sees.mk_
    replace ho2 := Lib.hid ho2
    replace hz := Lib.hid hz
    replace h2 := Lib.hid (h2.mono (show g + 1 ≤ wr.heap.size from hgl.out))
    replace hv := Lib.hid (fun j hj => by obtain ⟨v, e1, e2⟩ := hv.out j hj; exact ⟨v, e1, e2.below hb2⟩ : ∀ j, j < k → ∃ v, vs[j]? = some v ∧ OwnB w2 (g + 1) v (leafH (ls.getD j [])))
    replace hgl := Lib.hid (Nat.lt_of_lt_of_le hgl.out hb2.size)
    replace hb := Lib.hid (bgo hb.out hb2)
    clear hb2 hlf ho
    dsimp only
    go_wp2_with fail
    go_roundw
    case rel =>
     refine ⟨k + 1, vs.set k (.slice A2 (leafH l).length c2), by omega, by go_num, (ho2.out.stored k _).1, fun j hj => ?_, hb.out.setCell (by have := hg.out; dsimp only; omega) _, by have := hgl.out; show _ < _; simp [World.setCell]; omega⟩
     by_cases hjk : j = k
     · subst hjk
       refine ⟨_, List.getElem?_set_self (by have := ho2.out.1; omega), ?_⟩
       rw [hlz.out]
       exact ownsRow_setCell_below h2.out (by dsimp only; omega) _
     · obtain ⟨v, e1, e2⟩ := hv.out j (by omega)
       exact ⟨v, by rw [List.getElem?_set_ne (by omega)]; exact e1, ownsRow_setCell_below e2 (by dsimp only; omega) _⟩
    case measure => simp [intOf]; omega
  · have hkn : k = ls.length := by omega
    have hfin : Hid (SeesL wr wr.heap.size (.slice (some ⟨g, 0, none⟩) ls.length ls.length) (ls.map leafH)) := by
     refine ⟨vs, by rw [List.length_map]; exact Sees.of_own ho.out, fun j hj => ?_⟩
     rw [List.length_map] at hj
     obtain ⟨v, e1, e2⟩ := hv.out j (by omega)
     refine ⟨v, e1, ?_⟩
     rw [List.getD_eq_getElem?_getD, List.getElem?_map, List.getElem?_eq_getElem hj, Option.map_some, Option.getD_some]
     rw [List.getD_eq_getElem?_getD, List.getElem?_eq_getElem hj, Option.getD_some] at e2
     exact e2.sees
    replace hkn := Lib.hid hkn
    go_wp2_with fail
    go_ret
    exact ⟨_, rfl, hfin.out, hb.out⟩
theorem root_top (ls : List Bs) (B : Nat) (u : Value) (w : World) (hu : SeesL w B u ls) (hB : B ≤ w.heap.size) (hn : ls.length ≤ 1024) (hl : ∀ l ∈ ls, l.length ≤ 1048576) :
 Calls Tryz.prog 95 #[u] w (RootPost ls w) := by
 have hs := Lib.hid (of_any ls B u w hu hB hn hl)
 obtain ⟨A, c, rfl, hc1, hc2⟩ := hu.mk_
 have j0 : ¬ ((1024 : Int) < (ls.length : Int)) := by omega
 clear hu hl
 go_enter Tryz.func95, Tryz.ntmps95
 go_wp2_with fail
 refine hs.out.mono ?_
 rintro e w1 ⟨v, rfl, h1, hb1⟩
 dsimp only
 go_wp2_with fail
 refine (root_any _ _ _ _ _ (Nat.le_refl _) h1 (Nat.le_refl _) (by rw [List.length_map]; exact hn) (leafs_len ls)).mono ?_
 rintro e w2 ⟨v2, rfl, h2, hb2⟩
 dsimp only
 go_wp2_with fail
 go_returns
 exact ⟨v2, rfl, h2.mono hb1.size, bgo hb1 hb2⟩
set_option maxRecDepth 100000 in
theorem path_any (m : Nat) : ∀ (ls : List Bs) (i : Nat) (B : Nat) (u : Value) (w : World), ls.length ≤ m → i < ls.length → SeesL w B u ls → B ≤ w.heap.size → ls.length ≤ 1024 → (∀ l ∈ ls, l.length = 32) →
 Calls Tryz.prog 143 #[u, .int .i64 (i : Int)] w (GivesL (pathG ls i) w) := by
 induction m with
 | zero => intro ls i B u w hm hi; omega
 | succ m ih =>
   intro ls i B u w hm hi hu hB hn hl
   by_cases h0 : ls.length ≤ m
   · exact ih ls i B u w h0 hi hu hB hn hl
   · have hlen : ls.length = m + 1 := by omega
     by_cases h2 : 2 ≤ ls.length
     · obtain ⟨A, c, rfl, hc1, hc2⟩ := hu.mk_
       obtain ⟨k1, k2, k3⟩ := splitN_lt ls.length h2
       have hdv := divide_any A ls.length c w h2 hn hc1 hc2
       unfold DividePost at hdv
       have p1 := Lib.hid (fun h => pathG_left ls i h2 h)
       have p2 := Lib.hid (fun h => pathG_right ls i h2 h)
       generalize splitN ls.length = k at *
       obtain ⟨b, o, rfl, hbB, -⟩ := hu.at_ (by omega)
       have c1 := SeesL.cut (a := 0) (b := k) hu (by omega) (by omega)
       have c2 := SeesL.cut (a := k) (b := ls.length) hu (by omega) (Nat.le_refl _)
       rw [cutA_zero, Nat.sub_zero, Nat.sub_zero, List.drop_zero] at c1
       rw [List.take_of_length_le (by rw [List.length_drop]; omega)] at c2
       generalize cutA (some ⟨b, o, none⟩) c k 1 = A2 at hdv c2
       have l1 : ∀ x ∈ ls.take k, x.length = 32 := fun x hx => hl x (List.mem_of_mem_take hx)
       have l2 : ∀ x ∈ ls.drop k, x.length = 32 := fun x hx => hl x (List.mem_of_mem_drop hx)
       have n1 : (ls.take k).length = k := by rw [List.length_take]; omega
       have n2 : (ls.drop k).length = ls.length - k := by rw [List.length_drop]
       have q1 := Lib.hid (rootG_len _ l1)
       have q2 := Lib.hid (rootG_len _ l2)
       replace hdv := Lib.hid hdv
       have hlm := Lib.hid hlen
       have hplen : ∀ j, Hid ((pathG (ls.take k) j).length ≤ 1024 ∧ (pathG (ls.drop k) j).length ≤ 1024) := fun j => ⟨Nat.le_trans (pathG_short _ _) (by omega), Nat.le_trans (pathG_short _ _) (by omega)⟩
       have j4 : ¬ ((ls.length : Int) = 1) := by omega
       by_cases hk : i < k
       · have g1 := Lib.hid (fun q => ih (ls.take k) i B _ (w.drewN q) (by omega) (by omega) (SeesL.below c1 (below_drewN (Below.refl B w) q)) hB (by omega) l1)
         have g2 := Lib.hid (fun (W : World) (hbW : Below w.heap.size w W) => root_any _ (ls.drop k) B _ W (Nat.le_refl _) (SeesL.below c2 (hbW.mono hB)) (Nat.le_trans hB hbW.size) (by omega) l2)
         have i0 : (i : Int) < (k : Int) := by omega
         replace p1 := Lib.hid (p1.out hk)
         have hp := Lib.hid (hplen i).out.1
         clear ih c1 c2 hu hlen hl l1 l2 n1 n2 p2 hplen
         generalize pathG (ls.take k) i = P at *
         generalize rootG (ls.drop k) = R at *
         generalize rootG (ls.take k) = R' at *
         go_enter Tryz.func143, Tryz.ntmps143
         go_wp2_with fail
         refine hdv.out.mono ?_
         rintro e w0 ⟨rfl, q, rfl⟩
         dsimp only
         go_wp2_with fail
         refine (g1.out q).mono ?_
         rintro e w1 ⟨v1, rfl, h1, hb1⟩
         have hb1' : Below w.heap.size w w1 := (below_drewN (Below.refl _ _) q).trans hb1
         dsimp only
         go_wp2_with fail
         refine (g2.out w1 hb1').mono ?_
         rintro e w2 ⟨v2, rfl, h2', hb2⟩
         have hw2 := bgo hb1' hb2
         have ho2 := h1.below hb2
         have hel := Elt.of_from (v := v1) h2'.sees h2'.from (fun k hk => (h1.lt k hk).2)
         have hal := balloc w2 (.cells #[v2] 34)
         have hcell := Lib.hid (one_cell w2 v2 34)
         obtain ⟨A9, c9, rfl, -, -⟩ := h2'.sees.mk_
         obtain ⟨A8, c8, rfl⟩ := h1.shape
         replace ho2 := Lib.hid (ho2.below hal)
         replace hel := Lib.hid (hel.below hal)
         have hb3 := Lib.hid (bgo hw2 hal)
         clear hb2 hb1 hb1' hw2 h1 h2' hal g1 g2
         dsimp only
         go_wp2_with (at_builtin; refine wpList_appL (by rfl) _ _ 52 Tryz.underlying52 rfl w.heap.size _ P rfl ho2.out _ _ _ R rfl hcell.out hel.out (by have := hp.out; omega) hb3.out.size ?_)
         intro v' w' hW2 hb4
         have hW2 := Lib.hid hW2
         have hb4 := Lib.hid hb4
         go_wp2_with fail
         go_ret
         exact ⟨_, rfl, by rw [p1.out]; exact hW2.out, hb3.out.trans hb4.out⟩
       · have g1 := Lib.hid (fun q => ih (ls.drop k) (i - k) B _ (w.drewN q) (by omega) (by omega) (SeesL.below c2 (below_drewN (Below.refl B w) q)) hB (by omega) l2)
         have g2 := Lib.hid (fun (W : World) (hbW : Below w.heap.size w W) => root_any _ (ls.take k) B _ W (Nat.le_refl _) (SeesL.below c1 (hbW.mono hB)) (Nat.le_trans hB hbW.size) (by omega) l1)
         have i0 : ¬ ((i : Int) < (k : Int)) := by omega
         have i1 : (k : Int) ≤ (i : Int) := by omega
         have i2 : Hid (((i - k : Nat) : Int) = (i : Int) - (k : Int)) := by show _ = _; omega
         rw [i2.out] at g1
         replace p2 := Lib.hid (p2.out hk)
         have hp := Lib.hid (hplen (i - k)).out.2
         clear ih c1 c2 hu hlen hl l1 l2 n1 n2 p1 hplen
         generalize pathG (ls.drop k) (i - k) = P at *
         generalize rootG (ls.drop k) = R' at *
         generalize rootG (ls.take k) = R at *
         go_enter Tryz.func143, Tryz.ntmps143
         go_wp2_with fail
         refine hdv.out.mono ?_
         rintro e w0 ⟨rfl, q, rfl⟩
         dsimp only
         go_wp2_with fail
         refine (g1.out q).mono ?_
         rintro e w1 ⟨v1, rfl, h1, hb1⟩
         have hb1' : Below w.heap.size w w1 := (below_drewN (Below.refl _ _) q).trans hb1
         dsimp only
         go_wp2_with fail
         refine (g2.out w1 hb1').mono ?_
         rintro e w2 ⟨v2, rfl, h2', hb2⟩
         have hw2 := bgo hb1' hb2
         have ho2 := h1.below hb2
         have hel := Elt.of_from (v := v1) h2'.sees h2'.from (fun k hk => (h1.lt k hk).2)
         have hal := balloc w2 (.cells #[v2] 34)
         have hcell := Lib.hid (one_cell w2 v2 34)
         obtain ⟨A9, c9, rfl, -, -⟩ := h2'.sees.mk_
         obtain ⟨A8, c8, rfl⟩ := h1.shape
         replace ho2 := Lib.hid (ho2.below hal)
         replace hel := Lib.hid (hel.below hal)
         have hb3 := Lib.hid (bgo hw2 hal)
         clear hb2 hb1 hb1' hw2 h1 h2' hal g1 g2
         dsimp only
         go_wp2_with (at_builtin; refine wpList_appL (by rfl) _ _ 52 Tryz.underlying52 rfl w.heap.size _ P rfl ho2.out _ _ _ R rfl hcell.out hel.out (by have := hp.out; omega) hb3.out.size ?_)
         intro v' w' hW2 hb4
         have hW2 := Lib.hid hW2
         have hb4 := Lib.hid hb4
         go_wp2_with fail
         go_ret
         exact ⟨_, rfl, by rw [p2.out]; exact hW2.out, hb3.out.trans hb4.out⟩
     · have h1 : ls.length = 1 := by omega
       have hp : pathG ls i = [] := pathG_one _ _ h2
       obtain ⟨A, c, rfl, hc1, hc2⟩ := hu.mk_
       rw [h1] at hc1 ⊢
       rw [hp]
       clear hu ih hl hlen hp h1
       go_enter Tryz.func143, Tryz.ntmps143
       go_wp2_with fail
       go_ret
       exact ⟨_, rfl, OwnL.nil _ _, Below.refl _ _⟩
theorem path_top (ls : List Bs) (i : Nat) (B : Nat) (u : Value) (w : World) (hu : SeesL w B u ls) (hi : i < ls.length) (hB : B ≤ w.heap.size) (hn : ls.length ≤ 1024) (hl : ∀ l ∈ ls, l.length ≤ 1048576) :
 Calls Tryz.prog 75 #[u, .int .i64 (i : Int)] w (PathPost (ls.map leafH) i w) := by
 have hs := Lib.hid (of_any ls B u w hu hB hn hl)
 obtain ⟨A, c, rfl, hc1, hc2⟩ := hu.mk_
 have j0 : ¬ ((1024 : Int) < (ls.length : Int)) := by omega
 have j1 : ¬ ((i : Int) < 0) := by omega
 have j2 : ¬ ((ls.length : Int) ≤ (i : Int)) := by omega
 clear hu hl
 go_enter Tryz.func75, Tryz.ntmps75
 go_wp2_with fail
 refine hs.out.mono ?_
 rintro e w1 ⟨v, rfl, h1, hb1⟩
 dsimp only
 go_wp2_with fail
 refine (path_any _ _ i _ _ _ (Nat.le_refl _) (by rw [List.length_map]; exact hi) h1 (Nat.le_refl _) (by rw [List.length_map]; exact hn) (leafs_len ls)).mono ?_
 rintro e w2 ⟨v2, rfl, h2, hb2⟩
 dsimp only
 go_wp2_with fail
 go_returns
 exact ⟨v2, rfl, h2.mono hb1.size, bgo hb1 hb2⟩
set_option linter.unusedSimpArgs false
set_option maxRecDepth 100000 in
theorem rsamel_eq (u v : Value) (a : List Bs) (w : World) (hu : SeesL w w.heap.size u a) (hv : SeesL w w.heap.size v a) (hn : a.length ≤ 1048576) :
 Calls Tryz.prog 44 #[u, v] w (BoolPost true w) := by
 obtain ⟨A, c, rfl, -, -⟩ := hu.mk_
 obtain ⟨A2, c2, rfl, -, -⟩ := hv.mk_
 replace hu := Lib.hid hu
 replace hv := Lib.hid hv
 go_enter Tryz.func44, Tryz.ntmps44
 go_wp2_with fail
 go_loopw [5] (fun t wr => ∃ k : Nat, k ≤ a.length ∧ t = .int .i64 k ∧ Hid (Below w.heap.size w wr)) (fun t _ => a.length - (intOf t).toNat)
 case atStart => exact ⟨0, by omega, rfl, Below.refl _ _⟩
 case round =>
  obtain ⟨k, hk, rfl, hb⟩ := hrel
  by_cases hlt : k < a.length
  · obtain ⟨b, o, rfl, hbB, hds⟩ := (hu.out.below hb.out).at_ (by omega)
    obtain ⟨b2, o2, rfl, hbB2, hds2⟩ := (hv.out.below hb.out).at_ (by omega)
    obtain ⟨A3, c3, y1, -, -, s1⟩ := hds k hlt
    obtain ⟨A4, c4, y2, -, -, s2⟩ := hds2 k hlt
    have i0 : (k : Int) < (a.length : Int) := by omega
    have hz := hb.out.size
    generalize a.getD k [] = da at *
    have hs : Hid (∀ W, Below wr.heap.size wr W → Calls Tryz.prog 20 #[.slice A3 da.length c3, .slice A4 da.length c4] W fun e w' => e = .returned (.bool true) ∧ w' = W) := fun W hW =>
     rsame_eq _ _ _ _ da W (seesB_of s1 hz hW) (seesB_of s2 hz hW)
    have K : Hid (∀ W, Below wr.heap.size wr W → W.cell? ⟨b, o + k, none⟩ = some (.slice A3 da.length c3) ∧ W.cell? ⟨b2, o2 + k, none⟩ = some (.slice A4 da.length c4)) := fun W hW => ⟨(hW.cell (p := ⟨b, o + k, none⟩) (Nat.lt_of_lt_of_le hbB hz)).trans y1, (hW.cell (p := ⟨b2, o2 + k, none⟩) (Nat.lt_of_lt_of_le hbB2 hz)).trans y2⟩
    clear hds hds2 s1 s2
    have j0 : (0 : Int) ≤ (k : Int) := by omega
    go_wp2_with fail
    go_region_held3 (fun W' : World => W'.cell? ⟨b, o + k, none⟩ = some (.slice A3 da.length c3) ∧ W'.cell? ⟨b2, o2 + k, none⟩ = some (.slice A4 da.length c4))
     (first | exact K.out _ (by (repeat (first | exact Below.refl _ _ | (refine bgo ?_ (balloc _ _)) | (refine bgo ?_ (bdrew _)) | (refine bgo ?_ (by assumption))))) | (go_keep; done))
     (first
      | (go_at_call 20; (with_reducible refine (hs.out wr.drew (bdrew wr)).mono ?_); rintro e w1 ⟨rfl, hw⟩
         obtain rfl := hw.symm
         have hb1 := Lib.hid (bgo hb.out (bdrew wr)))
      | (go_at_call 20; (with_reducible refine (hs.out wr (Below.refl _ _)).mono ?_); rintro e w1 ⟨rfl, hw⟩
         obtain rfl := hw.symm
         have hb1 := hb))
    all_goals
     go_wp2_with fail
     go_roundw
     case rel => exact ⟨k + 1, by omega, by go_num, hb1⟩
     case measure => simp [intOf]; omega
  · have i0 : ¬ (k : Int) < (a.length : Int) := by omega
    go_wp2_with fail
    go_returns
    exact ⟨rfl, hb.out⟩
end Go.Proofs.YtgehkgjllhkhoaaGreat

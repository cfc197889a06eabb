/- Contracts of tagged.Message and tagged.Fits, of sectimecase.Randoms. Conditions: names and data are seen and equally many, at most 16 names, at most 1048576 bytes of data. -/
import Derived.Test.YtkefbjpdpcmpnaaGreatEnc
import Derived.Test.YtkefbjpdpcmpnaaGreatRandom
import Derived.BigQuiet
namespace Go.Proofs.YtkefbjpdpcmpnaaGreat
open Go.RowKit
set_option linter.unusedVariables false
attribute [local go_sem ↓] Go.wp_at_zero Go.wp_at_succ
theorem zip_at (ns ds : List Bs) (k : Nat) (s d : Bs) (h1 : ns[k]? = some s) (h2 : ds[k]? = some d) : (ns.zip ds)[k]? = some (s, d) := by
  exact List.getElem?_zip_eq_some.2 ⟨h1, h2⟩
theorem tagS_one (s d : Bs) : tagS [(s, d)] = [Spec.val (.string (strB s)), Spec.byt d] := rfl
set_option maxRecDepth 100000 in
set_option maxHeartbeats 2000000 in
theorem message_any (B : Nat) (u u2 : Value) (ns ds : List Bs) (w : World) (hu : SeesR w B u 1 ns.length (nameS ns)) (hu2 : SeesL w B u2 ds) (hB : B ≤ w.heap.size) (hl : ns.length = ds.length) (hn : ns.length ≤ 16) (hd : (dataT (ns.zip ds)).length ≤ 1048576) :
    Calls Tryz.prog 87 #[u, u2] w (EncP (ns.zip ds) w) := by
  obtain ⟨A, c, rfl, -, -⟩ := hu.mk_
  obtain ⟨A2, c2, rfl, -, -⟩ := hu2.mk_
  replace hu := Lib.hid hu
  replace hu2 := Lib.hid hu2
  replace hd := Lib.hid hd
  have hz : Hid ((ns.zip ds).length = ns.length) := by show _ = _; rw [List.length_zip]; omega
  have hl2 := Lib.hid hl
  rw [← hl]
  clear hl
  go_enter Tryz.func87, Tryz.ntmps87
  go_wp2_with fail
  go_loopw [6, 11] (fun r t wr => ∃ k : Nat, k ≤ ns.length ∧ t = .int .i64 k ∧ Hid (OwnR wr w.heap.size 131 r 2 k (tagS ((ns.zip ds).take k))) ∧ Hid (Below w.heap.size w wr)) (fun _ t _ => ns.length - (intOf t).toNat)
  case atStart => exact ⟨0, by omega, rfl, OwnR.nil _ _ _ _, Below.refl _ _⟩
  case round =>
    obtain ⟨k, hk, rfl, ho, hb⟩ := hrel
    obtain ⟨Ar, cr, rfl, -, -⟩ := ho.out.sees.mk_
    by_cases hlt : k < ns.length
    · obtain ⟨s, hs⟩ : ∃ s, ns[k]? = some s := ⟨ns[k], List.getElem?_eq_getElem hlt⟩
      have hk2 : k < ds.length := by have := hl2.out; omega
      obtain ⟨b, o, rfl, hbB, y0⟩ := name_at (hu.out.below (hb.out.mono hB)) k s hs
      obtain ⟨b2, o2, rfl, hbB2, hds⟩ := (hu2.out.below (hb.out.mono hB)).at_ (by omega)
      obtain ⟨A', c', y1, -, -, sd⟩ := hds k hk2
      have hdk : ds[k]? = some (ds.getD k []) := by rw [List.getD_eq_getElem?_getD, List.getElem?_eq_getElem hk2]; rfl
      have hstep : Hid ((ns.zip ds).take (k + 1) = (ns.zip ds).take k ++ [(s, ds.getD k [])]) := take_one _ _ _ (zip_at ns ds k s _ hs hdk)
      generalize ds.getD k [] = da at *
      have i0 : (k : Int) < (ns.length : Int) := by omega
      have hel := EltS.of_old (s := .byt da) (v := .slice Ar k cr) (show FitS wr B (.slice A' da.length c') (.byt da) from sd) (Nat.le_trans hB hb.out.size) (fun j hj => Nat.le_trans hB (ho.out.lt j hj).1)
      have hst1 : (Value.string (strB s)).oneCell' = true := rfl
      generalize hS1 : strB s = S1 at *
      have hal := balloc wr (.cells #[.string S1, .slice A' da.length c'] 131)
      have hrec : Hid (Sees (wr.alloc (.cells #[.string S1, .slice A' da.length c'] 131)) (wr.heap.size + 1) (.slice (some ⟨wr.heap.size, 0, none⟩) 1 1) 2 1 [.string S1, .slice A' da.length c']) := rec_lit wr 131 [.string S1, .slice A' da.length c']
      have ho2 := Lib.hid (ho.out.below hal)
      have hel2 := Lib.hid (two_elt hst1 (hel.below hal))
      have hb3 := Lib.hid (bgo hb.out hal)
      generalize hacc : (ns.zip ds).take k = acc at *
      obtain ⟨ti, hti, htz, hts', htby⟩ := info_parts tag_info
      replace hti := Lib.hid hti
      replace htz := Lib.hid htz
      replace hts' := Lib.hid hts'
      replace htby := Lib.hid htby
      replace hS1 := Lib.hid hS1
      replace hacc := Lib.hid hacc
      replace hs := Lib.hid hs
      replace hdk := Lib.hid hdk
      clear hal hel sd hds
      go_wp2_with (at_builtin; refine wpList_appR (by rfl) _ _ 107 131 Tryz.underlying107 rfl ti _ 2 40 hti.out htz.out hts'.out htby.out rfl (by omega) (by omega) w.heap.size _ k _ rfl ho2.out _ _ 1 _ [.val (.string S1), .byt da] rfl hrec.out rfl hel2.out (by omega) hb3.out.size ?_)
      intro v' w' hW2 hb4
      have hW2 := Lib.hid hW2
      have hb4 := Lib.hid (hb3.out.trans hb4)
      go_wp2_with fail
      go_roundw
      case rel => exact ⟨k + 1, by omega, by go_num, by show OwnR _ _ _ _ _ _ _; rw [hstep.out, tagS_append, tagS_one, hS1.out]; exact hW2.out, hb4⟩
      case measure => simp [intOf]; omega
    · obtain rfl : k = ns.length := by omega
      have i0 : ¬ (ns.length : Int) < (ns.length : Int) := by omega
      rw [List.take_of_length_le (Nat.le_of_eq hz.out)] at ho
      have hs9 : SeesR wr wr.heap.size (.slice Ar ns.length cr) 2 (ns.zip ds).length (tagS (ns.zip ds)) := by rw [hz.out]; exact ho.out.sees
      have hen := Lib.hid (encode_any wr.heap.size _ (ns.zip ds) wr hs9 (Nat.le_refl _) (by have := hz.out; omega) hd.out)
      clear hs9
      go_wp2_with fail
      refine hen.out.mono ?_
      rintro e w6 ⟨v6, rfl, o6, hb6⟩
      obtain ⟨A6, c6, rfl, -, -⟩ := o6.sees.mk_
      dsimp only
      go_wp2_with fail
      go_returns
      exact ⟨_, rfl, o6.mono hb.out.size, bgo hb.out hb6⟩
def randsK (v : Int) (n : Nat) (k : Nat) : List Bs := (List.range k).map fun (i : Nat) => randK (wrap64 (wrap64 (v * 1000) + (i : Int))) n
theorem randsK_next (v : Int) (n k : Nat) : randsK v n (k + 1) = randsK v n k ++ [randK (wrap64 (wrap64 (v * 1000) + (k : Int))) n] := by
  rw [randsK, randsK, List.range_succ, List.map_append]; rfl
theorem randsK_len (v : Int) (n k : Nat) : (randsK v n k).length = k := by simp [randsK]
theorem randsK_each (v : Int) (n k : Nat) (hn : n ≤ 32) : ∀ l ∈ randsK v n k, l.length = n := by
  intro l hl
  simp only [randsK, List.mem_map] at hl
  obtain ⟨i, -, rfl⟩ := hl
  exact randK_len _ _ hn
set_option maxRecDepth 100000 in
set_option maxHeartbeats 2000000 in
theorem krandoms_any (v : Int) (n k : Nat) (w : World) (hn : n ≤ 32) (hk : k ≤ 1000) :
    Calls Tryz.prog 31 #[.int .i64 v, .int .i64 (n : Int), .int .i64 (k : Int)] w (GivesL (randsK v n k) w) := by
  have hR := Lib.hid (fun x W => krandom_any x n hn W)
  go_enter Tryz.func31, Tryz.ntmps31
  go_wp2_with fail
  go_loopw [7, 8] (fun r t wr => ∃ j : Nat, j ≤ k ∧ t = .int .i64 j ∧ Hid (OwnL wr w.heap.size r (randsK v n j)) ∧ Hid (Below w.heap.size w wr)) (fun _ t _ => k - (intOf t).toNat)
  case atStart => exact ⟨0, by omega, rfl, OwnL.nil _ _, Below.refl _ _⟩
  case round =>
    obtain ⟨j, hj, rfl, ho, hb⟩ := hrel
    obtain ⟨Ar, cr, rfl⟩ := ho.out.shape
    have hkl := randsK_len v n j
    rw [hkl] at ho ⊢
    by_cases hlt : j < k
    · have i0 : (j : Int) < (k : Int) := by omega
      have hst := Lib.hid (randsK_next v n j)
      have hrl := Lib.hid (randK_len (wrap64 (wrap64 (v * 1000) + (j : Int))) n hn)
      go_wp2_with fail
      refine (hR.out _ wr).mono ?_
      rintro e w1 ⟨v1, rfl, s1, hb1, f1⟩
      generalize randK (wrap64 (wrap64 (v * 1000) + (j : Int))) n = da at *
      generalize randsK v n j = acc at *
      obtain ⟨A1, c1, rfl, -, -⟩ := s1.mk_
      have ho1 := ho.out.below hb1
      have hel := Elt.of_from (v := .slice Ar j cr) s1 f1 (fun q hq => (ho.out.lt q hq).2)
      have hal := balloc w1 (.cells #[.slice A1 da.length c1] 23)
      have hbox := Lib.hid (one_cell w1 (.slice A1 da.length c1) 23)
      have ho4 := Lib.hid (ho1.below hal)
      have hel4 := Lib.hid (hel.below hal)
      have hb4 := Lib.hid (bgo (bgo hb.out hb1) hal)
      replace hkl := Lib.hid hkl
      replace hrl := Lib.hid hrl
      clear hal hel ho1 s1 f1 hb1
      dsimp only
      go_wp2_with (at_builtin; refine wpList_appL (by rfl) _ _ 22 Tryz.underlying22 rfl w.heap.size _ acc rfl ho4.out _ _ _ da rfl hbox.out hel4.out (by have := hkl.out; omega) hb4.out.size ?_)
      intro v' w' hW2 hb5
      have hW2 := Lib.hid hW2
      have hb5 := Lib.hid (hb4.out.trans hb5)
      go_wp2_with fail
      go_roundw
      case rel => exact ⟨j + 1, by omega, by go_num, by show OwnL _ _ _ _; rw [hst.out]; exact hW2.out, hb5⟩
      case measure => simp [intOf]; omega
    · obtain rfl : j = k := by omega
      have i0 : ¬ (j : Int) < (j : Int) := by omega
      go_wp2_with fail
      go_returns
      exact ⟨_, rfl, ho.out, hb.out⟩
end Go.Proofs.YtkefbjpdpcmpnaaGreat

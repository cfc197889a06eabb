/- Contract of sectimeref32.Encode: the bytes of a proof, or an error. Conditions: at most 65535 bytes in all where there are at most 8 links. -/
import Derived.Test.YtcoehlmeegoofaaGreatEncP
namespace Go.Proofs.YtcoehlmeegoofaaGreat
open Go Go.RowKit
set_option linter.unusedVariables false
set_option linter.unusedSimpArgs false
attribute [local go_sem ↓] Go.wp_at_zero Go.wp_at_succ
set_option maxRecDepth 100000 in
set_option maxHeartbeats 8000000 in
theorem rbencode_any (u : Value) (ls : List Lk) (f s : Int) (w : World) (hu : SeesR w w.heap.size u 3 ls.length (linkS ls)) (hl : ls.length ≤ 8 → (wrF (encF ls 0 0)).length ≤ 65535) :
    Calls Tryz.prog 8 #[.agg #[u, .int .i64 f, .int .i64 s]] w (FEncP ls f s w) := by
  obtain ⟨A, c, rfl, hc1, hc2⟩ := hu.mk_
  unfold maxLen at hc2
  obtain ⟨ti, hti, htz, hts, htb⟩ := info_parts field_info
  replace hti := Lib.hid hti
  replace htz := Lib.hid htz
  replace hts := Lib.hid hts
  replace htb := Lib.hid htb
  have hal := balloc w (.cells #[.slice A ls.length c, .int .i64 f, .int .i64 s] 24)
  have x1 := Box.new w 24 [.slice A ls.length c, .int .i64 f, .int .i64 s]
  change Box (w.alloc (.cells #[.slice A ls.length c, .int .i64 f, .int .i64 s] 24)) _ _ _ at x1
  have hu0 := Lib.hid ((hu.below hal).more hal.size)
  replace hl := Lib.hid hl
  clear hu
  go_enter Tryz.func8, Tryz.ntmps8
  go_upto_region 1 with (fail)
  generalize w.alloc (.cells #[.slice A ls.length c, .int .i64 f, .int .i64 s] 24) = W0 at *
  generalize hgg : w.heap.size = g at x1 ⊢
  have hgl := Lib.hid (hal.size)
  obtain ⟨z0, z1, z2, -, -, -⟩ := box3_cells x1
  by_cases h8 : 8 < ls.length
  · have i0 : (8 : Int) < (ls.length : Int) := by omega
    have hr := Lib.hid (fenc_bad (w := w) (w' := W0) (c := 8) (by unfold fencC; rw [if_pos h8]) (by omega) hal : FEncP ls f s w _ W0)
    go_wp2_with fail
    go_returns
    exact hr.out
  have i0 : ¬ (8 : Int) < (ls.length : Int) := by omega
  by_cases hm0 : f < 0
  · have hr := Lib.hid (fenc_bad (w := w) (w' := W0) (c := 4) (by unfold fencC; rw [if_neg h8, if_neg (by omega)]) (by omega) hal : FEncP ls f s w _ W0)
    go_wp2_with fail
    go_returns
    exact hr.out
  by_cases hm1 : 255 < f
  · have hr := Lib.hid (fenc_bad (w := w) (w' := W0) (c := 4) (by unfold fencC; rw [if_neg h8, if_neg (by omega)]) (by omega) hal : FEncP ls f s w _ W0)
    go_wp2_with fail
    go_returns
    exact hr.out
  by_cases hm2 : s < 0
  · have hr := Lib.hid (fenc_bad (w := w) (w' := W0) (c := 4) (by unfold fencC; rw [if_neg h8, if_neg (by omega)]) (by omega) hal : FEncP ls f s w _ W0)
    go_wp2_with fail
    go_returns
    exact hr.out
  by_cases hm3 : 255 < s
  · have hr := Lib.hid (fenc_bad (w := w) (w' := W0) (c := 4) (by unfold fencC; rw [if_neg h8, if_neg (by omega)]) (by omega) hal : FEncP ls f s w _ W0)
    go_wp2_with fail
    go_returns
    exact hr.out
  obtain ⟨a, rfl⟩ := byte_of (f := f) (by omega) (by omega)
  obtain ⟨b, rfl⟩ := byte_of (f := s) (by omega) (by omega)
  have ha := a.toNat_lt
  have hb' := b.toNat_lt
  have hC : Hid (fencC ls (a.toNat : Int) (b.toNat : Int) = 0) := by show _ = _; unfold fencC; rw [if_neg h8, if_pos (by omega)]
  have m0 : ¬ (a.toNat : Int) < 0 := by omega
  have m1 : ¬ (255 : Int) < (a.toNat : Int) := by omega
  have m2 : ¬ (b.toNat : Int) < 0 := by omega
  have m3 : ¬ (255 : Int) < (b.toNat : Int) := by omega
  have n1 : IntKind.u8.wrap (a.toNat : Int) = (a.toNat : Int) := by rw [IntKind.wrap_u8]; omega
  have n2 : IntKind.u8.wrap (b.toNat : Int) = (b.toNat : Int) := by rw [IntKind.wrap_u8]; omega
  clear ha hb'
  go_wp2_with fail
  go_loopw [4, 5] (fun r t wr => ∃ k : Nat, k ≤ ls.length ∧ t = .int .i64 k ∧ Hid (OwnR wr W0.heap.size 46 r 2 (3 * k) (fdS ((ls.take k).flatMap lkF))) ∧ Hid (Below W0.heap.size W0 wr)) (fun _ t _ => ls.length - (intOf t).toNat)
  case atStart => exact ⟨0, by omega, rfl, OwnR.nil _ _ _ _, Below.refl _ _⟩
  case round =>
    clear z0 z1 z2
    obtain ⟨k, hk, rfl, ho, hb⟩ := hrel
    obtain ⟨z0, z1, z2, -, -, -⟩ := box3_cells (x1.below hb.out)
    obtain ⟨Ar, cr, rfl, -, -⟩ := ho.out.sees.mk_
    by_cases hlt : k < ls.length
    · have hk1 : Hid (k + 1 ≤ ls.length) := hlt
      have i1 : (k : Int) < (ls.length : Int) := by omega
      have i2 : (0 : Int) ≤ (k : Int) := by omega
      obtain ⟨t, ht⟩ : ∃ t, ls[k]? = some t := ⟨_, List.getElem?_eq_getElem hlt⟩
      have hst := Lib.hid (lkF_take ht)
      obtain ⟨bb, o, A1, c1, A2, c2, A3, c3, e, hbB, y0, s1, y1, s2, y2, s3⟩ := link_at (hu0.out.below hb.out) k t ht
      subst e
      obtain ⟨d1, d2, d3⟩ := t
      dsimp only at y0 y1 y2 s1 s2 s3
      have hal2 := bgo (balloc wr (.cells #[.slice A1 d1.length c1, .slice A2 d2.length c2, .slice A3 d3.length c3] 41)) (balloc _ (.cells #[.int .i64 1, .slice A1 d1.length c1, .int .i64 2, .slice A2 d2.length c2, .int .i64 3, .slice A3 d3.length c3] 46))
      have hrec := recs_lit (wr.alloc (.cells #[.slice A1 d1.length c1, .slice A2 d2.length c2, .slice A3 d3.length c3] 41)) 46 2 3 [.int .i64 1, .slice A1 d1.length c1, .int .i64 2, .slice A2 d2.length c2, .int .i64 3, .slice A3 d3.length c3] rfl (by unfold maxLen; omega)
      rw [World.size_alloc] at hrec
      change Sees ((wr.alloc (.cells #[.slice A1 d1.length c1, .slice A2 d2.length c2, .slice A3 d3.length c3] 41)).alloc (.cells #[.int .i64 1, .slice A1 d1.length c1, .int .i64 2, .slice A2 d2.length c2, .int .i64 3, .slice A3 d3.length c3] 46)) _ _ _ _ _ at hrec
      have hsz : W0.heap.size ≤ ((wr.alloc (.cells #[.slice A1 d1.length c1, .slice A2 d2.length c2, .slice A3 d3.length c3] 41)).alloc (.cells #[.int .i64 1, .slice A1 d1.length c1, .int .i64 2, .slice A2 d2.length c2, .int .i64 3, .slice A3 d3.length c3] 46)).heap.size := Nat.le_trans hb.out.size hal2.size
      have hv : ∀ j, (Value.slice Ar (3 * k) cr).ownBlock = some j → W0.heap.size ≤ j := fun j hj => (ho.out.lt j hj).1
      have hel := Lib.hid (trip_elts (old_elt s1 (Nat.le_refl _) (hal2.mono hb.out.size) hsz hv) (old_elt s2 (Nat.le_refl _) (hal2.mono hb.out.size) hsz hv) (old_elt s3 (Nat.le_refl _) (hal2.mono hb.out.size) hsz hv))
      have ho2 := Lib.hid (ho.out.below hal2)
      have hb3 := Lib.hid (bgo hb.out hal2)
      replace hrec := Lib.hid hrec
      have hcnt : Hid (3 * k + 3 ≤ 1048576) := by show _ ≤ _; omega
      clear hal2 hsz hv s1 s2 s3 ho hb ht z1 z2
      go_wp2_with (at_builtin; refine wpList_appR (by rfl) _ _ 44 46 Tryz.underlying44 rfl ti _ 2 32 hti.out htz.out hts.out htb.out rfl (by omega) (by omega) W0.heap.size _ (3 * k) _ rfl ho2.out _ _ 3 _ (fdS (lkF (d1, d2, d3))) rfl hrec.out rfl hel.out hcnt.out hb3.out.size ?_)
      intro v' w' hW2 hb4
      replace hW2 : Hid (OwnR w' W0.heap.size 46 v' 2 (3 * (k + 1)) (fdS ((ls.take (k + 1)).flatMap lkF))) := by show OwnR _ _ _ _ _ _ _; rw [hst.out, fdS_append]; exact hW2
      replace hb4 := Lib.hid (hb3.out.trans hb4)
      go_wp2_with fail
      go_roundw
      case rel => exact ⟨k + 1, hk1.out, by go_num, hW2, hb4⟩
      case measure => have := hk1.out; simp [intOf]; omega
    · obtain rfl : k = ls.length := by omega
      have i1 : ¬ (ls.length : Int) < (ls.length : Int) := by omega
      rw [List.take_of_length_le (Nat.le_refl _)] at *
      have hal2 := bgo (balloc wr (.cells #[.int .u8 (a.toNat : Int), .int .u8 (b.toNat : Int)] 5)) (balloc _ (.cells #[.int .i64 4, .slice (some ⟨wr.heap.size, 0, none⟩) 2 2] 46))
      have hby : OwnB (wr.alloc (.cells #[.int .u8 (a.toNat : Int), .int .u8 (b.toNat : Int)] 5)) wr.heap.size (.slice (some ⟨wr.heap.size, 0, none⟩) 2 2) [a, b] := own_made wr [a, b] (by unfold maxLen; simp) _ (Nat.le_refl _)
      have hrec := recs_lit (wr.alloc (.cells #[.int .u8 (a.toNat : Int), .int .u8 (b.toNat : Int)] 5)) 46 2 1 [.int .i64 4, .slice (some ⟨wr.heap.size, 0, none⟩) 2 2] rfl (by unfold maxLen; omega)
      rw [World.size_alloc] at hrec
      change Sees ((wr.alloc (.cells #[.int .u8 (a.toNat : Int), .int .u8 (b.toNat : Int)] 5)).alloc (.cells #[.int .i64 4, .slice (some ⟨wr.heap.size, 0, none⟩) 2 2] 46)) _ _ _ _ _ at hrec
      have hby2 := seesB_of hby.sees (Nat.le_refl _) (balloc (wr.alloc (.cells #[.int .u8 (a.toNat : Int), .int .u8 (b.toNat : Int)] 5)) (.cells #[.int .i64 4, .slice (some ⟨wr.heap.size, 0, none⟩) 2 2] 46))
      have hel := Lib.hid (last_elts (EltS.of_from (v := .slice Ar (3 * ls.length) cr) hby2 hby.from (fun j hj => (ho.out.lt j hj).2)))
      have ho2 := Lib.hid (ho.out.below hal2)
      have hb3 := Lib.hid (bgo hb.out hal2)
      replace hrec := Lib.hid hrec
      have hcnt : Hid (3 * ls.length + 1 ≤ 1048576) := by show _ ≤ _; omega
      have htot : (wrF (encF ls a.toNat b.toNat)).length ≤ 65535 := by rw [encF_total ls a.toNat b.toNat 0 0]; exact hl.out (by omega)
      have hwr : Hid (∀ (v : Value) (W : World), SeesR W W.heap.size v 2 (encF ls a.toNat b.toNat).length (fdS (encF ls a.toNat b.toNat)) → Calls Tryz.prog 17 #[v] W (WriteP (wrF (encF ls a.toNat b.toNat)) W)) := fun v W hv =>
        rwrite_any W.heap.size v (encF ls a.toNat b.toNat) W hv (Nat.le_refl _) (enc_okF htot) htot
      have hel1 := Lib.hid (encF_len ls a.toNat b.toNat)
      have hel2 := Lib.hid (encF_bytes ls a b)
      clear hal2 ho hb hby hby2 htot
      go_wp2_with (at_builtin; refine wpList_appR (by rfl) _ _ 44 46 Tryz.underlying44 rfl ti _ 2 32 hti.out htz.out hts.out htb.out rfl (by omega) (by omega) W0.heap.size _ (3 * ls.length) _ rfl ho2.out _ _ 1 _ (fdS [(4, [a, b])]) rfl hrec.out rfl hel.out hcnt.out hb3.out.size ?_)
      intro v' w' hW2 hb4
      replace hW2 : Hid (SeesR w' w'.heap.size v' 2 (encF ls a.toNat b.toNat).length (fdS (encF ls a.toNat b.toNat))) := by
        show SeesR _ _ _ _ _ _
        rw [hel1.out, hel2.out, fdS_append]; exact hW2.sees
      replace hb4 := Lib.hid (bgo hal (hb3.out.trans hb4))
      have hww := Lib.hid (hwr.out v' w' hW2.out)
      clear hwr hel1 hel2 hel hrec ho2 hb3
      go_wp2_with fail
      refine hww.out.mono ?_
      rintro e w9 ⟨v9, rfl, o9, hb9⟩
      have hb10 := Lib.hid (bgo hb4.out hb9)
      have o10 := Lib.hid (o9.mono (hb4.out.size))
      clear hww
      dsimp only
      go_wp2_with fail
      go_returns
      exact fenc_good hC.out o10.out hb10.out
end Go.Proofs.YtcoehlmeegoofaaGreat

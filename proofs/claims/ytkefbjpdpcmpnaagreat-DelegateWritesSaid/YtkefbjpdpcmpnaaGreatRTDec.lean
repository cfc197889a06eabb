/- Contract of sectimeref28.Decode: the tags of a message. Conditions: that the message is seen. -/
import Derived.Test.YtkefbjpdpcmpnaaGreatTDec
namespace Go.Proofs.YtkefbjpdpcmpnaaGreat
open Go.RowKit
set_option linter.unusedVariables false
attribute [local go_sem ↓] Go.wp_at_zero Go.wp_at_succ
theorem less_total : ∀ a b : Bs, (!Op.bytesLess a b) = (Op.bytesLess b a || b == a)
  | [], [] => by simp [Op.bytesLess]
  | [], b :: y => by simp [Op.bytesLess]
  | a :: x, [] => by simp [Op.bytesLess]
  | a :: x, b :: y => by
    have ih := less_total x y
    simp only [Op.bytesLess]
    by_cases h1 : a < b
    · have h2 : ¬ b < a := by rw [UInt8.lt_iff_toNat_lt] at *; omega
      have h3 : ¬ b = a := by intro e; subst e; exact h2 h1
      simp [h1, h2, h3]
    · by_cases h2 : b < a
      · simp [h1, h2]
        exact Or.inl (fun e => by subst e; exact h1 h2)
      · have h3 : a = b := by
          rw [UInt8.lt_iff_toNat_lt] at *
          exact UInt8.toNat_inj.1 (by omega)
        subst h3
        simp [h1, ih]
theorem less_nil (a : Bs) (h : a.length = 4) : (Op.bytesLess a [] || a == []) = false := by
  cases a with
  | nil => simp at h
  | cons x y => simp [Op.bytesLess]
/-- The name in front of tag k. -/
def lastN (b : Bs) (n k : Nat) : Bs := if k = 0 then [] else (tagN b n (k - 1)).1
theorem at_mod (b : Bs) (n size : Nat) (h : placesOk b size (n - 1) = true) (h4 : size % 4 = 0) (i : Nat) : atN b n size i % 4 = 0 := by
  unfold atN
  split
  · unfold fromN
    split
    · rfl
    · have := (placesOk_get b size _ h (i - 1) (by omega)).1
      rwa [show i - 1 + 1 = i by omega] at this
  · exact h4
theorem tagsN_get (b : Bs) (n k : Nat) (h : k < n) : (tagsN b n)[k]? = some (tagN b n k) := by
  simp [tagsN, h]
theorem named_len (s : Bs) (h : namedG s = true) : s.length = 4 := by
  unfold namedG at h
  simp at h
  exact h.1
set_option maxRecDepth 100000 in
set_option maxHeartbeats 8000000 in
theorem rdecode_any (B : Nat) (u : Value) (b : Bs) (w : World) (hu : SeesB w B u b) (hB : B ≤ w.heap.size) (hbl : b.length ≤ 1048576) :
    Calls Tryz.prog 72 #[u] w (DecP b w) := by
  obtain ⟨A, c, rfl, hc1, hc2⟩ := hu.mk_
  by_cases g1 : 2048 < b.length
  · have hd := Lib.hid (dec_long b g1)
    have i1 : (2048 : Int) < (b.length : Int) := by omega
    clear hu
    go_enter Tryz.func72, Tryz.ntmps72
    go_wp2_with fail
    go_returns
    exact dec_nil hd.out (by omega) rfl (Below.refl _ _)
  by_cases g2 : b.length < 4
  · have hd := Lib.hid (dec_short b g1 g2)
    have i1 : ¬ (2048 : Int) < (b.length : Int) := by omega
    have i2 : (b.length : Int) < 4 := by omega
    clear hu
    go_enter Tryz.func72, Tryz.ntmps72
    go_wp2_with fail
    go_returns
    exact dec_nil hd.out (by omega) rfl (Below.refl _ _)
  have i1 : ¬ (2048 : Int) < (b.length : Int) := by omega
  have i2 : ¬ (b.length : Int) < 4 := by omega
  have h0t : SeesB w B (.slice A 4 c) (b.take 4) := hu.take (by omega) (by omega) hc2
  have hnum := rget_any B _ _ w h0t
  rw [show getB (b.take 4) = placeN b 0 by simp [placeN]] at hnum
  replace hnum := Lib.hid hnum
  have hnlt := placeN_lt b 0 (by omega)
  clear h0t
  have i6 : (4 : Int) ≤ (c : Int) := by omega
  by_cases g3 : placeN b 0 < 1 ∨ 16 < placeN b 0
  · have hd := Lib.hid (dec_limit b g1 g2 g3)
    generalize placeN b 0 = n at *
    rcases g3 with g3 | g3
    · have i3 : (n : Int) < 1 := by omega
      clear hu
      go_enter Tryz.func72, Tryz.ntmps72
      go_wp2_with fail
      refine hnum.out.mono ?_
      rintro e w0 ⟨rfl, rfl⟩
      dsimp only
      go_wp2_with fail
      go_returns
      exact dec_nil hd.out (by omega) rfl (Below.refl _ _)
    · have i3 : ¬ (n : Int) < 1 := by omega
      have i4 : (16 : Int) < (n : Int) := by omega
      clear hu
      go_enter Tryz.func72, Tryz.ntmps72
      go_wp2_with fail
      refine hnum.out.mono ?_
      rintro e w0 ⟨rfl, rfl⟩
      dsimp only
      go_wp2_with fail
      go_returns
      exact dec_nil hd.out (by omega) rfl (Below.refl _ _)
  have i3 : ¬ ((placeN b 0 : Nat) : Int) < 1 := by omega
  have i4 : ¬ (16 : Int) < ((placeN b 0 : Nat) : Int) := by omega
  have i7 : IntKind.i64.wrap ((placeN b 0 : Nat) : Int) = ((placeN b 0 : Nat) : Int) := by rw [IntKind.wrap_i64]; omega
  by_cases g4 : b.length < 8 * placeN b 0
  · have hd := Lib.hid (dec_short2 b g1 g2 g3 g4)
    generalize placeN b 0 = n at *
    have i5 : (b.length : Int) < 8 * (n : Int) := by omega
    clear hu
    go_enter Tryz.func72, Tryz.ntmps72
    go_wp2_with fail
    refine hnum.out.mono ?_
    rintro e w0 ⟨rfl, rfl⟩
    dsimp only
    go_wp2_with fail
    go_returns
    exact dec_nil hd.out (by omega) rfl (Below.refl _ _)
  have i5 : ¬ (b.length : Int) < 8 * ((placeN b 0 : Nat) : Int) := by omega
  have hfm := dec_form b g1 g2 g3 g4
  have htg := dec_tags b g1 g2 g3 g4
  have hdt : decT b = if decC b = 0 then tagsN b (placeN b 0) else [] := rfl
  have hr := run_cut_from (P := Tryz.prog) 23 Tryz.underlying23 1 byte_size A b.length c .i64 (8 * ((placeN b 0 : Nat) : Int)) (by omega) (by omega)
  rw [show (8 * ((placeN b 0 : Nat) : Int)).toNat = 8 * placeN b 0 from by omega] at hr
  have hcut := SeesB.cut (a := 8 * placeN b 0) (b := b.length) hu (by omega) (Nat.le_refl _)
  rw [List.take_of_length_le (by rw [List.length_drop]; omega)] at hcut
  generalize hN : placeN b 0 = n at *
  have hD : (b.drop (8 * n)).length = b.length - 8 * n := List.length_drop
  generalize hz : b.length - 8 * n = z at *
  have hz2 : (b.length : Int) - 8 * (n : Int) = (z : Int) := by omega
  have hz3 : z ≤ 2048 := by omega
  have iz : IntKind.u64.wrap (z : Int) = (z : Int) := by rw [IntKind.wrap_u64]; omega
  generalize cutA A c (8 * n) 1 = A2 at *
  generalize hc3 : c - 8 * n = c2 at *
  have hc4 : z ≤ c2 := by omega
  have hget := Lib.hid (fun W (hW : Below w.heap.size w W) (j : Nat) (hj : 4 * (j + 1) + 4 ≤ b.length) => rget_any B _ _ W (SeesB.cut (a := 4 * (j + 1)) (b := 4 * (j + 1) + 4) (hu.below (hW.mono hB)) (by omega) hj))
  have hu' := Lib.hid hu
  have hcut' := Lib.hid hcut
  have hfm' := Lib.hid hfm
  have htg' := Lib.hid htg
  have hdt' := Lib.hid hdt
  replace hz := Lib.hid hz
  replace hD := Lib.hid hD
  replace hc3 := Lib.hid hc3
  replace hN := Lib.hid hN
  clear hu hcut hfm htg hdt
  go_enter Tryz.func72, Tryz.ntmps72
  go_wp2_with fail
  refine hnum.out.mono ?_
  rintro e w0 ⟨rfl, hw0⟩
  obtain rfl := hw0.symm
  dsimp only
  go_wp2_with fail
  refine wp_fresh (fun W => OwnI W w.heap.size (.slice (some ⟨w.heap.size, 0, none⟩) 1 1) [0] ∧ Below w.heap.size w W) ⟨World.ownsRow_lit (base := w.heap.size) (size := 1) w #[.int .i64 0] 1 (Nat.le_refl _) (by simp [maxLen]) rfl, balloc w _⟩ ?_
  rintro W1 ⟨ho, hbw⟩
  replace ho := Lib.hid ho
  replace hbw := Lib.hid hbw
  clear hnum
  go_loopw [7, 8, 9] (fun r t _ wr => ∃ j : Nat, j < n ∧ t = .int .i64 (j : Int) ∧ Hid (OwnI wr w.heap.size r ((List.range (j + 1)).map (fromN b))) ∧ Hid (placesOk b z j = true) ∧ Hid (Below w.heap.size w wr)) (fun _ t _ _ => n - (intOf t).toNat)
  case atStart => exact ⟨0, by omega, rfl, ho, rfl, hbw⟩
  case round =>
    clear ho hbw
    obtain ⟨j, hj, rfl, ho, hok, hbw⟩ := hrel
    have hsee := ho.out.sees
    have hrl : ((List.range (j + 1)).map (fromN b)).length = j + 1 := by simp
    obtain ⟨Ar, cr, rfl, -, -⟩ := hsee.mk_
    obtain ⟨g, o, rfl, hgB, hcell⟩ := hsee.at_ (by rw [hrl]; omega)
    have x0 := hcell j (by rw [hrl]; omega)
    have hgd : ((List.range (j + 1)).map (fromN b)).getD j 0 = fromN b j := by simp [List.getD_eq_getElem?_getD]
    rw [hgd] at x0
    have hrs := Lib.hid (range_step b (j + 1))
    have i8 : (j : Int) < ((((List.range (j + 1)).map (fromN b)).length : Nat) : Int) := by rw [hrl]; omega
    replace hrl := Lib.hid hrl
    clear hgd hcell hsee
    by_cases hlt : j + 1 < n
    · have i0 : (j : Int) + 1 < (n : Int) := by omega
      have hr2 := run_cut (P := Tryz.prog) 23 Tryz.underlying23 1 byte_size A b.length c .i64 .i64 (4 + 4 * (j : Int)) (8 + 4 * (j : Int)) (by omega) (by omega) (by omega)
      rw [show (4 + 4 * (j : Int)).toNat = 4 * (j + 1) by omega, show (8 + 4 * (j : Int)).toNat = 4 * (j + 1) + 4 by omega] at hr2
      have hq := hget.out wr hbw.out j (by omega)
      rw [show getB ((b.drop (4 * (j + 1))).take (4 * (j + 1) + 4 - 4 * (j + 1))) = placeN b (j + 1) by rw [placeN, show 4 * (j + 1) + 4 - 4 * (j + 1) = 4 by omega]] at hq
      replace hq := Lib.hid hq
      generalize cutA A c (4 * (j + 1)) 1 = A3 at *
      generalize 4 * (j + 1) + 4 - 4 * (j + 1) = n3 at *
      generalize c - 4 * (j + 1) = c3 at *
      have hplt := placeN_lt b (j + 1) (by omega)
      have hstep : Hid (placesOk b z (j + 1) = (placesOk b z j && (decide (placeN b (j + 1) % 4 = 0) && decide (fromN b j ≤ placeN b (j + 1)) && decide (placeN b (j + 1) ≤ z)))) := rfl
      have hfr : Hid (fromN b (j + 1) = placeN b (j + 1)) := by show _ = _; simp [fromN]
      rw [hfr.out] at hrs
      have hno1 : Hid (placesOk b z (j + 1) = false → decC b = 3) := fun h => hfm'.out (fun h2 => by rw [placesOk_no b z (j + 1) (n - 1) h (by omega)] at h2; exact absurd h2.1 (by simp))
      generalize placeN b (j + 1) = p at *
      generalize fromN b j = f at *
      generalize (List.range (j + 1)).map (fromN b) = acc at *
      have iw : IntKind.i64.wrap (p : Int) = (p : Int) := by rw [IntKind.wrap_i64]; omega
      by_cases ms : p ≤ z
      · have zs : ¬ (z : Int) < (p : Int) := by omega
        by_cases m4 : p % 4 = 0
        · have z4 : ((p : Nat) : Int) % 4 = 0 := by omega
          by_cases mf : f ≤ p
          · have zf : ¬ ((p : Nat) : Int) < (f : Int) := by omega
            have hok2 : Hid (placesOk b z (j + 1) = true) := by show _ = _; rw [hstep.out, hok.out]; simp [m4, mf, ms]
            have hal2 := balloc wr (.cells #[.int .i64 (p : Int)] 3)
            have ho2 := Lib.hid (ho.out.below hal2)
            have hcl := Lib.hid (lit_int1 wr p)
            have hb2 := Lib.hid (bgo hbw.out hal2)
            clear hal2 hstep hno1
            go_wp2_with fail
            refine hq.out.mono ?_
            rintro e w0 ⟨rfl, hw0⟩
            obtain rfl := hw0.symm
            dsimp only
            go_wp2_with (at_builtin; refine wpList_appI (by rfl) _ _ rfl w.heap.size _ acc rfl ho2.out _ _ [p] rfl hcl.out (by have := hrl.out; simp; omega) hb2.out.size ?_)
            intro v' w' hW2 hb4
            have hW2 := Lib.hid hW2
            have hb4 := Lib.hid (hb2.out.trans hb4)
            go_wp2_with fail
            go_roundw
            case rel => exact ⟨j + 1, by omega, by go_num, by rw [hrs.out]; exact hW2.out, hok2, hb4⟩
            case measure => simp [intOf]; omega
          · have zf : ((p : Nat) : Int) < (f : Int) := by omega
            have hno := Lib.hid (hno1.out (by rw [hstep.out]; simp [mf]))
            go_wp2_with fail
            refine hq.out.mono ?_
            rintro e w0 ⟨rfl, hw0⟩
            obtain rfl := hw0.symm
            dsimp only
            go_wp2_with fail
            go_returns
            exact dec_nil hno.out (by omega) rfl hbw.out
        · have z4 : ¬ ((p : Nat) : Int) % 4 = 0 := by omega
          have hno := Lib.hid (hno1.out (by rw [hstep.out]; simp [m4]))
          go_wp2_with fail
          refine hq.out.mono ?_
          rintro e w0 ⟨rfl, hw0⟩
          obtain rfl := hw0.symm
          dsimp only
          go_wp2_with fail
          go_returns
          exact dec_nil hno.out (by omega) rfl hbw.out
      · have zs : (z : Int) < (p : Int) := by omega
        have hno := Lib.hid (hno1.out (by rw [hstep.out]; simp [ms]))
        go_wp2_with fail
        refine hq.out.mono ?_
        rintro e w0 ⟨rfl, hw0⟩
        obtain rfl := hw0.symm
        dsimp only
        go_wp2_with fail
        go_returns
        exact dec_nil hno.out (by omega) rfl hbw.out
    · have hjn : n = j + 1 := by omega
      have i0 : ¬ (j : Int) + 1 < (n : Int) := by omega
      have hokn : placesOk b z (n - 1) = true := by rw [show n - 1 = j by omega]; exact hok.out
      have hLn : Hid (listN b n z = (List.range (j + 1)).map (fromN b) ++ [z]) := by show _ = _; rw [listN, hjn]
      generalize (List.range (j + 1)).map (fromN b) = acc at *
      replace hjn := Lib.hid hjn
      by_cases m4 : z % 4 = 0
      · have z4 : ((z : Nat) : Int) % 4 = 0 := by omega
        have hal2 := balloc wr (.cells #[.int .i64 (z : Int)] 3)
        have ho2 := Lib.hid (ho.out.below hal2)
        have hcl := Lib.hid (lit_int1 wr z)
        have hbx := Lib.hid (bgo hbw.out hal2)
        clear hal2 hrs
        go_wp2_with (at_builtin; refine wpList_appI (by rfl) _ _ rfl w.heap.size _ acc rfl ho2.out _ _ [z] rfl hcl.out (by have := hrl.out; simp; omega) hbx.out.size ?_)
        intro v2 w2 hL hb4
        have hb2 := Lib.hid (hbx.out.trans hb4)
        rw [← hLn.out] at hL
        have hdc := htg'.out ⟨hokn, m4⟩
        have hat := Lib.hid (fun k hk => at_le b n z hokn k hk)
        have hmod := Lib.hid (fun k => at_mod b n z hokn m4 k)
        have hLl := listN_len b n z
        obtain ⟨AL, cL, rfl, -, -⟩ := hL.sees.mk_
        obtain ⟨gL, oL, rfl, hgL, hLc⟩ := hL.sees.at_ (by omega)
        have hLc2 : ∀ k, k ≤ n → w2.cell? ⟨gL, oL + k, none⟩ = some (.int .i64 ((atN b n z k : Nat) : Int)) := fun k hk => by
          have := hLc k (by omega)
          rwa [listN_get b n z k hk] at this
        have hK : Hid (∀ k, k < n → ∀ W', Below w2.heap.size w2 W' → W'.cell? ⟨gL, oL + k, none⟩ = some (.int .i64 ((atN b n z k : Nat) : Int)) ∧ W'.cell? ⟨gL, oL + (k + 1), none⟩ = some (.int .i64 ((atN b n z (k + 1) : Nat) : Int))) := fun k hk W' hW' =>
          ⟨(hW'.cell (p := ⟨gL, oL + k, none⟩) hgL).trans (hLc2 k (by omega)), (hW'.cell (p := ⟨gL, oL + (k + 1), none⟩) hgL).trans (hLc2 (k + 1) (by omega))⟩
        have hdt2 : Hid (decT b = if checkT [] (tagsN b n) = 0 then tagsN b n else []) := by show _ = _; rw [hdt'.out, hdc]
        replace hdc := Lib.hid hdc
        have hsz : (((listN b n z).length : Nat) : Int) = (n : Int) + 1 := by rw [hLl]; omega
        replace hsz := Lib.hid hsz
        replace hLl := Lib.hid hLl
        clear hL hLc hLc2 hfm' htg' hdt' hok hokn hcl ho2 hbx hb4 ho x0 i8 hrl hLn hget hgB
        generalize listN b n z = L at *
        go_wp2_with fail
        go_loopw [10, 11, 12, 109, 113] (fun r t _ _ _ wr => ∃ k : Nat, k ≤ n ∧ t = .int .i64 k ∧ Hid (OwnR wr w2.heap.size 131 r 2 k (tagS ((List.range k).map (tagN b n)))) ∧ Hid (checkT [] (tagsN b n) = checkT (lastN b n k) ((tagsN b n).drop k)) ∧ Hid (Below w2.heap.size w2 wr)) (fun _ t _ _ _ _ => n - (intOf t).toNat)
        case atStart => exact ⟨0, by omega, rfl, OwnR.nil _ _ _ _, rfl, Below.refl _ _⟩
        case round =>
          rename_i wr1 wr
          clear hbw
          obtain ⟨k, hk, rfl, ho, hck, hb⟩ := hrel
          obtain ⟨Ar2, cr2, rfl, -, -⟩ := ho.out.sees.mk_
          by_cases hlt : k < n
          · have i9 : (k : Int) < (n : Int) := by omega
            obtain ⟨a1, a2⟩ := hat.out k hlt
            have K := Lib.hid (hK.out k hlt)
            have hstep := Lib.hid (tagsN_step b n k)
            have htg : Hid (tagN b n k = ((b.drop (4 * (n + k))).take 4, ((b.drop (8 * n)).drop (atN b n z k)).take (atN b n z (k + 1) - atN b n z k))) := by show _ = _; rw [tagN, hz.out]
            have htk := tagsN_get b n k hlt
            have hcm := checkT_step (tagsN b n) k _ (lastN b n k) htk
            have hcn := checkT_name (tagsN b n) k _ (lastN b n k) htk
            have hco := checkT_order (tagsN b n) k _ (lastN b n k) htk
            have hls : lastN b n (k + 1) = (tagN b n k).1 := by simp [lastN]
            have hda4 : (((b.drop (8 * n)).drop (atN b n z k)).take (atN b n z (k + 1) - atN b n z k)).length % 4 = 0 := by
              have m1 := hmod.out k
              have m2 := hmod.out (k + 1)
              have := hD.out
              rw [List.length_take, List.length_drop]
              omega
            rw [htg.out] at hcm hcn hco hls
            dsimp only at hcm hcn hco hls
            generalize atN b n z k = p at *
            generalize atN b n z (k + 1) = q at *
            have hb0 := hb.out
            have hbw := bgo hb2.out hb0
            have hub := hu'.out.below (hbw.mono hB)
            have hr3 := run_cut (P := Tryz.prog) 23 Tryz.underlying23 1 byte_size A b.length c .i64 .i64 (4 * (n : Int) + 4 * (k : Int)) (4 * (n : Int) + 4 * (k : Int) + 4) (by omega) (by omega) (by omega)
            rw [show (4 * (n : Int) + 4 * (k : Int)).toNat = 4 * (n + k) by omega, show (4 * (n : Int) + 4 * (k : Int) + 4).toNat = 4 * (n + k) + 4 by omega] at hr3
            have hnm := SeesB.cut (a := 4 * (n + k)) (b := 4 * (n + k) + 4) hub (by omega) (by omega)
            rw [show 4 * (n + k) + 4 - 4 * (n + k) = 4 by omega] at hnm hr3
            have hstr := hnm.string
            have hr4 := run_cut (P := Tryz.prog) 23 Tryz.underlying23 1 byte_size A2 z c2 .i64 .i64 (p : Int) (q : Int) (by omega) (by omega) (by omega)
            rw [Int.toNat_natCast, Int.toNat_natCast] at hr4
            have hda := SeesB.cut (a := p) (b := q) hcut'.out a1 (by rw [hD.out]; exact a2)
            have hdl : (((b.drop (8 * n)).drop p).take (q - p)).length = q - p := by rw [List.length_take, List.length_drop, hD.out]; omega
            generalize (b.drop (4 * (n + k))).take 4 = nm at *
            generalize cutA A c (4 * (n + k)) 1 = A3 at *
            generalize c - 4 * (n + k) = c3 at *
            generalize ((b.drop (8 * n)).drop p).take (q - p) = da at *
            rw [← hdl] at hda hr4
            generalize cutA A2 c2 p 1 = A4 at *
            generalize c2 - p = c4 at *
            generalize tagsN b n = ts at *
            have htags : ∀ m, k = m + 1 → ((List.range k).map (tagN b n))[m]? = some (tagN b n m) := fun m hm => by
              subst hm
              simp
            have hlast2 : ∀ m, k = m + 1 → lastN b n k = (tagN b n m).1 := fun m hm => by
              subst hm
              simp [lastN]
            have hjoin : Hid (∀ W0, Below w.heap.size w W0 → ∀ W, Below (W0.alloc (.cells #[.slice A4 da.length c4] 23)).heap.size (W0.alloc (.cells #[.slice A4 da.length c4] 23)) W → Calls Tryz.prog 65 #[.slice (some ⟨W0.heap.size, 0, none⟩) 1 1] W (Gives da W)) := fun W0 hW0 W hW => by
              have hl3 := seesL_lit W0 23 (show SeesAll W0 W0.heap.size [.slice A4 da.length c4] [da] from ⟨(hda.below (hW0.mono hB)).more (Nat.le_trans hB hW0.size), trivial⟩) (by simp [maxLen])
              have hfl : [da].flatten = da := by simp
              have h9 := rjoin_any _ _ [da] W (SeesL.below hl3 hW) hW.size (by rw [hfl]; omega)
              rwa [hfl] at h9
            obtain ⟨x0, x1⟩ := K.out wr hb0
            have hrn := fun W => rnamed_any nm W
            generalize hac : (List.range k).map (tagN b n) = ac at *
            replace hac := Lib.hid hac
            obtain ⟨ti, hti, htz, hts', htby⟩ := info_parts tag_info
            have hst1 : (Value.string (strB nm)).oneCell' = true := rfl
            have hl1 := strB_toList nm
            generalize hS1 : strB nm = S1 at *
            replace hS1 := Lib.hid hS1
            clear hub hnm hda hbw
            have i12 : (k : Int) < ((L.length : Nat) : Int) := by have := hsz.out; omega
            have i13 : (k : Int) + 1 < ((L.length : Nat) : Int) := by have := hsz.out; omega
            have i14 : IntKind.i64.wrap ((k : Int) + 1) = (k : Int) + 1 := by rw [IntKind.wrap_i64]; omega
            have i15 : ((k : Int) + 1).toNat = k + 1 := by omega
            have i16 : (0 : Int) ≤ (k : Int) + 1 := by omega
            have i10 : (p : Int) ≤ (q : Int) := by omega
            have i11 : (q : Int) ≤ (c2 : Int) := by omega
            replace hcm := Lib.hid hcm
            replace hcn := Lib.hid hcn
            replace hco := Lib.hid hco
            replace hls := Lib.hid hls
            replace hda4 := Lib.hid hda4
            replace hdl := Lib.hid hdl
            replace htags := Lib.hid htags
            replace hlast2 := Lib.hid hlast2
            replace htk := Lib.hid htk
            cases hV : namedG nm with
            | false =>
              rw [hV] at hrn
              have hd : Hid (decC b = 11) := by show _ = _; rw [hdc.out, hck.out, hcn.out hV]
              replace hrn := Lib.hid hrn
              go_wp2_with fail
              refine (hrn.out _).mono ?_
              rintro e w6 ⟨rfl, hb6⟩
              dsimp only
              go_wp2_with fail
              go_returns
              exact dec_nil hd.out (by omega) rfl (bgo (bgo hb2.out hb0) hb6)
            | true =>
              rw [hV] at hrn
              replace hrn := Lib.hid hrn
              go_wp2_with fail
              refine (hrn.out _).mono ?_
              rintro e w6 ⟨rfl, hb6⟩
              have ho6 := Lib.hid (ho.out.below hb6)
              have hb06 := bgo hb0 hb6
              clear x0 x1
              obtain ⟨x0, x1⟩ := K.out w6 hb06
              dsimp only
              by_cases k0 : k = 0
              · have hck2 : Hid (checkT [] ts = checkT (lastN b n (k + 1)) (ts.drop (k + 1))) := by
                  show _ = _
                  rw [hck.out, hcm.out hV (by rw [lastN, if_pos k0]; exact less_nil nm (named_len nm hV)) hda4.out, hls.out]
                have ik : ¬ (0 : Int) < (k : Int) := by omega
                replace k0 := Lib.hid k0
                go_wp2_with fail
                go_region_held3 (fun W' : World => W'.cell? ⟨gL, oL + k, none⟩ = some (.int .i64 (p : Int)) ∧ W'.cell? ⟨gL, oL + (k + 1), none⟩ = some (.int .i64 (q : Int)))
                  (first | exact K.out _ (hb3.out.trans hb4) | exact K.out _ (by (repeat (first | exact Below.refl _ _ | (refine bgo ?_ (balloc _ _)) | (refine bgo ?_ (bdrew _)) | (refine bgo ?_ (by assumption))))) | (go_keep; done))
                  (first
                    | (refine step_appR (by rfl) _ _ 107 131 Tryz.underlying107 (by rfl) ti _ 2 40 hti htz hts' htby (by rfl) (by omega) (by omega) w2.heap.size _ (k) _ (by rfl) ho2.out _ _ 1 _ [.val (.string S1), .byt da] (by rfl) hrec.out (by rfl) hel.out (by omega) hb3.out.size ?_; intro v' w' hW2 hb4)
                    | (go_at_call 65; refine (hjoin.out w6 (bgo hb2.out hb06) _ (by (repeat (first | exact Below.refl _ _ | (refine bgo ?_ (balloc _ _)) | (refine bgo ?_ (bdrew _)) | (refine bgo ?_ (by assumption)))))).mono ?_; rintro e w5 ⟨v5, rfl, h5, hb5⟩; obtain ⟨A5, c5, rfl, -, -⟩ := h5.sees.mk_
                       have hw5 : Below w6.heap.size w6 w5 := bgo (bgo (balloc w6 _) (bdrew _)) hb5
                       have hal := balloc w5 (.cells #[.string S1, .slice A5 da.length c5] 131)
                       have hrec : Hid (Sees (w5.alloc (.cells #[.string S1, .slice A5 da.length c5] 131)) (w5.heap.size + 1) (.slice (some ⟨w5.heap.size, 0, none⟩) 1 1) 2 1 [.string S1, .slice A5 da.length c5]) := rec_lit w5 131 [.string S1, .slice A5 da.length c5]
                       have ho2 := Lib.hid ((ho6.out.below hw5).below hal)
                       have hel := Lib.hid (two_elt hst1 ((EltS.of_from (v := .slice Ar2 (k) cr2) h5.sees h5.from (fun j hj => Nat.lt_of_lt_of_le (ho6.out.lt j hj).2 (balloc w6 _).size)).below hal))
                       have hb3 := Lib.hid (bgo (bgo hb06 hw5) hal)
                       clear hal h5))
                all_goals
                  go_wp2_with fail
                  go_roundw
                  case rel => exact ⟨k + 1, by omega, by go_num, by rw [hstep.out, tagS_append, htg.out, show tagS [(nm, da)] = [Spec.val (.string (strB nm)), Spec.byt da] from rfl, hS1.out]; exact hW2, hck2, hb3.out.trans hb4⟩
                  case measure => simp [intOf]; omega
              · obtain ⟨m, hm⟩ : ∃ m, k = m + 1 := ⟨k - 1, by omega⟩
                have ht9 := htags.out m hm
                have hl9 := hlast2.out m hm
                obtain ⟨b9, o9, A9, c9, rfl, hb9, y0, y1, -⟩ := tag_at ho6.out.sees m _ ht9
                rw [← hl9] at y0
                have hl2 := strB_toList (lastN b n k)
                have hlt9 := less_total (lastN b n k) nm
                generalize lastN b n k = la at *
                generalize strB la = S2 at *
                have ik : (0 : Int) < (k : Int) := by omega
                have im : (k : Int) - 1 = (m : Int) := by omega
                have im2 : (m : Int) < (k : Int) := by omega
                replace hm := Lib.hid hm
                replace ht9 := Lib.hid ht9
                replace hl9 := Lib.hid hl9
                replace k0 := Lib.hid k0
                cases hp : Op.bytesLess la nm with
                | false =>
                  rw [hp] at hlt9
                  have hd : Hid (decC b = 12) := by show _ = _; rw [hdc.out, hck.out, hco.out hV (by rw [← hlt9]; rfl)]
                  replace hlt9 := Lib.hid hlt9
                  go_wp2_with fail
                  go_returns
                  exact dec_nil hd.out (by omega) rfl (bgo hb2.out hb06)
                | true =>
                  rw [hp] at hlt9
                  have hck2 : Hid (checkT [] ts = checkT (lastN b n (k + 1)) (ts.drop (k + 1))) := by
                    show _ = _
                    rw [hck.out, hcm.out hV (by rw [← hlt9]; rfl) hda4.out, hls.out]
                  replace hlt9 := Lib.hid hlt9
                  go_wp2_with fail
                  go_region_held3 (fun W' : World => W'.cell? ⟨gL, oL + k, none⟩ = some (.int .i64 (p : Int)) ∧ W'.cell? ⟨gL, oL + (k + 1), none⟩ = some (.int .i64 (q : Int)))
                    (first | exact K.out _ (hb3.out.trans hb4) | exact K.out _ (by (repeat (first | exact Below.refl _ _ | (refine bgo ?_ (balloc _ _)) | (refine bgo ?_ (bdrew _)) | (refine bgo ?_ (by assumption))))) | (go_keep; done))
                    (first
                      | (refine step_appR (by rfl) _ _ 107 131 Tryz.underlying107 (by rfl) ti _ 2 40 hti htz hts' htby (by rfl) (by omega) (by omega) w2.heap.size _ (k) _ (by rfl) ho2.out _ _ 1 _ [.val (.string S1), .byt da] (by rfl) hrec.out (by rfl) hel.out (by omega) hb3.out.size ?_; intro v' w' hW2 hb4)
                      | (go_at_call 65; refine (hjoin.out w6 (bgo hb2.out hb06) _ (by (repeat (first | exact Below.refl _ _ | (refine bgo ?_ (balloc _ _)) | (refine bgo ?_ (bdrew _)) | (refine bgo ?_ (by assumption)))))).mono ?_; rintro e w5 ⟨v5, rfl, h5, hb5⟩; obtain ⟨A5, c5, rfl, -, -⟩ := h5.sees.mk_
                         have hw5 : Below w6.heap.size w6 w5 := bgo (bgo (balloc w6 _) (bdrew _)) hb5
                         have hal := balloc w5 (.cells #[.string S1, .slice A5 da.length c5] 131)
                         have hrec : Hid (Sees (w5.alloc (.cells #[.string S1, .slice A5 da.length c5] 131)) (w5.heap.size + 1) (.slice (some ⟨w5.heap.size, 0, none⟩) 1 1) 2 1 [.string S1, .slice A5 da.length c5]) := rec_lit w5 131 [.string S1, .slice A5 da.length c5]
                         have ho2 := Lib.hid ((ho6.out.below hw5).below hal)
                         have hel := Lib.hid (two_elt hst1 ((EltS.of_from (v := .slice (some ⟨b9, o9, none⟩) k cr2) h5.sees h5.from (fun j hj => Nat.lt_of_lt_of_le (ho6.out.lt j hj).2 (balloc w6 _).size)).below hal))
                         have hb3 := Lib.hid (bgo (bgo hb06 hw5) hal)
                         clear hal h5))
                  all_goals
                    go_wp2_with fail
                    go_roundw
                    case rel => exact ⟨k + 1, by omega, by go_num, by rw [hstep.out, tagS_append, htg.out, show tagS [(nm, da)] = [Spec.val (.string (strB nm)), Spec.byt da] from rfl, hS1.out]; exact hW2, hck2, hb3.out.trans hb4⟩
                    case measure => simp [intOf]; omega
          · obtain rfl : n = k := by omega
            have i9 : ¬ (n : Int) < (n : Int) := by omega
            have hd0 : Hid (decC b = 0) := by
              show _ = _
              rw [hdc.out, hck.out, List.drop_eq_nil_of_le (by simp [tagsN])]
              rfl
            have hd1 : Hid (decT b = tagsN b n) := by
              show _ = _
              rw [hdt2.out, ← hdc.out, hd0.out, if_pos rfl]
            have hs9 : Hid (SeesR wr wr.heap.size (.slice Ar2 n cr2) 2 (tagsN b n).length (tagS (tagsN b n))) := by
              have h9 := ho.out.sees
              have hl9 : (tagsN b n).length = n := by simp [tagsN]
              show SeesR _ _ _ _ _ _
              rw [hl9]
              exact h9
            go_wp2_with fail
            go_returns
            exact ⟨.slice Ar2 n cr2, by rw [hd0.out]; rfl, by rw [hd1.out]; exact hs9.out, bgo hb2.out hb.out⟩
      · have hd := Lib.hid (hfm'.out (fun h => m4 h.2))
        have z4 : ¬ ((z : Nat) : Int) % 4 = 0 := by omega
        go_wp2_with fail
        go_returns
        exact dec_nil hd.out (by omega) rfl hbw.out
end Go.Proofs.YtkefbjpdpcmpnaaGreat

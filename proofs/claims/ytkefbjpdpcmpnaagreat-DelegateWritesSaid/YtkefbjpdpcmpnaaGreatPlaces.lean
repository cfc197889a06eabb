/- Contracts of rough.number and rough.places: the numbers in front of a message. Conditions: a message that holds them, at most 4096 bytes. -/
import Derived.Test.YtkefbjpdpcmpnaaGreatTCheck
import Derived.Test.YtkefbjpdpcmpnaaGreatTower14
namespace Go.Proofs.YtkefbjpdpcmpnaaGreat
open Go.RowKit
set_option linter.unusedVariables false
attribute [local go_sem ↓] Go.wp_at_zero Go.wp_at_succ
theorem placeN_lt (b : Bs) (i : Nat) (h : 4 * i + 4 ≤ b.length) : placeN b i < 4294967296 := by
  unfold placeN
  exact getB_lt4 _ (by rw [List.length_take, List.length_drop]; omega)
set_option maxRecDepth 100000 in
theorem number_any (B : Nat) (u : Value) (b : Bs) (i : Nat) (w : World) (hu : SeesB w B u b) (hi : 4 * i + 4 ≤ b.length) (hb : b.length ≤ 4096) :
    Calls Tryz.prog 157 #[u, .int .i64 (i : Int)] w fun e w' => e = .returned (.int .i64 (placeN b i : Int)) ∧ w' = w := by
  obtain ⟨A, c, rfl, hc1, hc2⟩ := hu.mk_
  have hr := run_cut (P := Tryz.prog) 23 Tryz.underlying23 1 byte_size A b.length c .i64 .i64 (4 * (i : Int)) (4 * (i : Int) + 4) (by omega) (by omega) (by omega)
  rw [show (4 * (i : Int)).toNat = 4 * i from by omega, show (4 * (i : Int) + 4).toNat = 4 * i + 4 from by omega] at hr
  have hcut := SeesB.cut (a := 4 * i) (b := 4 * i + 4) hu (by omega) hi
  rw [show 4 * i + 4 - 4 * i = 4 by omega] at hcut hr
  have hg := Lib.hid (get_any B _ _ w hcut)
  have hlt := placeN_lt b i hi
  have hp : Hid (getB ((b.drop (4 * i)).take 4) = placeN b i) := rfl
  generalize getB ((b.drop (4 * i)).take 4) = p at *
  have hp' := hp.out
  rw [← hp'] at hlt ⊢
  have hw : IntKind.i64.wrap (p : Int) = (p : Int) := by rw [IntKind.wrap_i64]; omega
  generalize cutA A c (4 * i) 1 = A2 at *
  generalize c - 4 * i = c2 at *
  replace hp' := Lib.hid hp'
  clear hcut hu
  go_enter Tryz.func157, Tryz.ntmps157
  go_wp2_with fail
  refine hg.out.mono ?_
  rintro e w0 ⟨rfl, rfl⟩
  dsimp only
  go_wp2_with fail
  go_ret
  exact ⟨rfl, rfl⟩
theorem placesOk_no (b : Bs) (size j m : Nat) (h : placesOk b size j = false) (hm : j ≤ m) : placesOk b size m = false := by
  induction m with
  | zero => rw [show j = 0 by omega] at h; exact h
  | succ m ih =>
    by_cases hj : j = m + 1
    · rw [← hj]; exact h
    · rw [placesOk, ih (by omega), Bool.false_and]
/-- What rough.places returns. -/
def PlacesP (b : Bs) (n size : Nat) (w : World) (e : Ending) (w' : World) : Prop :=
  (placesOk b size (n - 1) = true ∧ ∃ v, e = .returned (.tuple #[v, .bool (decide (size % 4 = 0))]) ∧ OwnI w' w.heap.size v ((List.range n).map (fromN b) ++ [size]) ∧ Below w.heap.size w w') ∨
  (placesOk b size (n - 1) = false ∧ e = .returned (.tuple #[.slice none 0 0, .bool false]) ∧ Below w.heap.size w w')
theorem range_step (b : Bs) (k : Nat) : (List.range (k + 1)).map (fromN b) = (List.range k).map (fromN b) ++ [fromN b k] := by
  rw [List.range_succ, List.map_append]; rfl
set_option maxRecDepth 100000 in
theorem places_any (B : Nat) (u : Value) (b : Bs) (n size : Nat) (w : World) (hu : SeesB w B u b) (hB : B ≤ w.heap.size) (h1 : 1 ≤ n) (h2 : n ≤ 16) (hn : 4 * n ≤ b.length) (hb : b.length ≤ 4096) (hs : size ≤ 4096) :
    Calls Tryz.prog 158 #[u, .int .i64 (n : Int), .int .i64 (size : Int)] w (PlacesP b n size w) := by
  obtain ⟨A, c, rfl, hc1, hc2⟩ := hu.mk_
  have hnum := Lib.hid (fun W (hW : Below w.heap.size w W) (i : Nat) (hi : 4 * i + 4 ≤ b.length) => number_any B _ b i W (hu.below (hW.mono hB)) hi hb)
  replace hb := Lib.hid hb
  clear hu
  go_enter Tryz.func158, Tryz.ntmps158
  go_wp2_with fail
  refine wp_fresh (fun W => OwnI W w.heap.size (.slice (some ⟨w.heap.size, 0, none⟩) 1 1) [0] ∧ Below w.heap.size w W) ⟨?_, balloc w _⟩ ?_
  · exact World.ownsRow_lit (base := w.heap.size) (size := 1) w #[.int .i64 0] 1 (Nat.le_refl _) (by simp [maxLen]) rfl
  rintro W1 ⟨ho, hbw⟩
  replace ho := Lib.hid ho
  replace hbw := Lib.hid hbw
  go_loopw [8, 9, 10] (fun r t _ wr => ∃ j : Nat, j < n ∧ t = .int .i64 ((j : Int) + 1) ∧ Hid (OwnI wr w.heap.size r ((List.range (j + 1)).map (fromN b))) ∧ Hid (placesOk b size j = true) ∧ Hid (Below w.heap.size w wr)) (fun _ t _ _ => n - (intOf t).toNat)
  case atStart => exact ⟨0, by omega, rfl, ho, rfl, hbw⟩
  case round =>
    clear ho hbw
    obtain ⟨j, hj, rfl, ho, hok, hbw⟩ := hrel
    have hsee := ho.out.sees
    have hrl : ((List.range (j + 1)).map (fromN b)).length = j + 1 := by simp
    obtain ⟨Ar, cr, rfl, -, -⟩ := hsee.mk_
    obtain ⟨g, o, rfl, hgB, hcell⟩ := hsee.at_ (by rw [hrl]; omega)
    have x0 := hcell j (by rw [hrl]; omega)
    have hgd : ((List.range (j + 1)).map (fromN b)).getD j 0 = fromN b j := by simp [List.getD_eq_getElem?_getD]
    rw [hgd] at x0
    have hrs := Lib.hid (range_step b (j + 1))
    have i1 : (j : Int) < ((((List.range (j + 1)).map (fromN b)).length : Nat) : Int) := by rw [hrl]; omega
    replace hrl := Lib.hid hrl
    clear hgd hcell hsee
    by_cases hlt : j + 1 < n
    · have i0 : (j : Int) + 1 < (n : Int) := by omega
      have hq := Lib.hid (hnum.out wr hbw.out (j + 1) (by omega))
      rw [show ((j + 1 : Nat) : Int) = (j : Int) + 1 by omega] at hq
      have hplt := placeN_lt b (j + 1) (by omega)
      have hstep : Hid (placesOk b size (j + 1) = (placesOk b size j && (decide (placeN b (j + 1) % 4 = 0) && decide (fromN b j ≤ placeN b (j + 1)) && decide (placeN b (j + 1) ≤ size)))) := rfl
      have hfr : Hid (fromN b (j + 1) = placeN b (j + 1)) := by show _ = _; simp [fromN]
      rw [hfr.out] at hrs
      have hno1 : Hid (placesOk b size (j + 1) = false → placesOk b size (n - 1) = false) := fun h => placesOk_no b size (j + 1) (n - 1) h (by omega)
      have hfl : fromN b j ≤ 4294967296 := by
        unfold fromN
        split
        · omega
        · exact Nat.le_of_lt (placeN_lt b j (by omega))
      generalize placeN b (j + 1) = p at *
      generalize fromN b j = f at *
      generalize (List.range (j + 1)).map (fromN b) = acc at *
      by_cases m4 : p % 4 = 0
      · have z4 : ((p : Nat) : Int) % 4 = 0 := by omega
        by_cases mf : f ≤ p
        · have zf : ¬ ((p : Nat) : Int) < (f : Int) := by omega
          by_cases ms : p ≤ size
          · have zs : ¬ (size : Int) < (p : Int) := by omega
            have hok2 : Hid (placesOk b size (j + 1) = true) := by show _ = _; rw [hstep.out, hok.out]; simp [m4, mf, ms]
            have hal2 := balloc wr (.cells #[.int .i64 (p : Int)] 3)
            have ho2 := Lib.hid (ho.out.below hal2)
            have hcl := Lib.hid (lit_int1 wr p)
            have hb2 := Lib.hid (bgo hbw.out hal2)
            clear hal2 hstep hno1
            go_wp2_with fail
            refine hq.out.mono ?_
            rintro e w0 ⟨rfl, hw0⟩
            obtain rfl := hw0.symm
            dsimp only
            go_wp2_with (at_builtin; refine wpList_appI (by rfl) _ _ rfl w.heap.size _ acc rfl ho2.out _ _ [p] rfl hcl.out (by have := hrl.out; simp; omega) hb2.out.size ?_)
            intro v' w' hW2 hb4
            have hW2 := Lib.hid hW2
            have hb4 := Lib.hid (hb2.out.trans hb4)
            go_wp2_with fail
            go_roundw
            case rel => exact ⟨j + 1, by omega, by go_num, by rw [hrs.out]; exact hW2.out, hok2, hb4⟩
            case measure => simp [intOf]; omega
          · have zs : (size : Int) < (p : Int) := by omega
            have hno := hno1.out (by rw [hstep.out]; simp [ms])
            go_wp2_with fail
            refine hq.out.mono ?_
            rintro e w0 ⟨rfl, hw0⟩
            obtain rfl := hw0.symm
            dsimp only
            go_wp2_with fail
            go_returns
            exact .inr ⟨hno, rfl, hbw.out⟩
        · have zf : ((p : Nat) : Int) < (f : Int) := by omega
          have hno := hno1.out (by rw [hstep.out]; simp [mf])
          go_wp2_with fail
          refine hq.out.mono ?_
          rintro e w0 ⟨rfl, hw0⟩
          obtain rfl := hw0.symm
          dsimp only
          go_wp2_with fail
          go_returns
          exact .inr ⟨hno, rfl, hbw.out⟩
      · have z4 : ¬ ((p : Nat) : Int) % 4 = 0 := by omega
        have hno := hno1.out (by rw [hstep.out]; simp [m4])
        go_wp2_with fail
        refine hq.out.mono ?_
        rintro e w0 ⟨rfl, hw0⟩
        obtain rfl := hw0.symm
        dsimp only
        go_wp2_with fail
        go_returns
        exact .inr ⟨hno, rfl, hbw.out⟩
    · have i0 : ¬ (j : Int) + 1 < (n : Int) := by omega
      have hok2 : Hid (placesOk b size (n - 1) = true) := by show _ = _; rw [show n - 1 = j by omega]; exact hok.out
      have hln : Hid ((List.range n).map (fromN b) ++ [size] = (List.range (j + 1)).map (fromN b) ++ [size]) := by show _ = _; rw [show n = j + 1 by omega]
      generalize (List.range (j + 1)).map (fromN b) = acc at *
      have hal2 := balloc wr (.cells #[.int .i64 (size : Int)] 3)
      have ho2 := Lib.hid (ho.out.below hal2)
      have hcl := Lib.hid (lit_int1 wr size)
      have hb2 := Lib.hid (bgo hbw.out hal2)
      clear hal2
      by_cases m4 : size % 4 = 0
      · have z4 : ((size : Nat) : Int) % 4 = 0 := by omega
        go_wp2_with (at_builtin; refine wpList_appI (by rfl) _ _ rfl w.heap.size _ acc rfl ho2.out _ _ [size] rfl hcl.out (by have := hrl.out; simp; omega) hb2.out.size ?_)
        intro v' w' hW2 hb4
        have hW2 := Lib.hid hW2
        have hb4 := Lib.hid (hb2.out.trans hb4)
        go_wp2_with fail
        go_returns
        exact .inl ⟨hok2.out, v', by simp [m4] <;> omega, by rw [hln.out]; exact hW2.out, hb4.out⟩
      · have z4 : ¬ ((size : Nat) : Int) % 4 = 0 := by omega
        go_wp2_with (at_builtin; refine wpList_appI (by rfl) _ _ rfl w.heap.size _ acc rfl ho2.out _ _ [size] rfl hcl.out (by have := hrl.out; simp; omega) hb2.out.size ?_)
        intro v' w' hW2 hb4
        have hW2 := Lib.hid hW2
        have hb4 := Lib.hid (hb2.out.trans hb4)
        go_wp2_with fail
        go_returns
        exact .inl ⟨hok2.out, v', by simp [m4] <;> omega, by rw [hln.out]; exact hW2.out, hb4.out⟩
end Go.Proofs.YtkefbjpdpcmpnaaGreat

/- Contract of sectimeref35.Trim. Conditions: the spans are seen, at most 64. -/
import Derived.Test.YtiiaghmdajdbbaaQU
import Derived.Test.YtiiaghmdajdbbaaQV
namespace Go.Proofs.Ytiiaghmdajdbbaa
open Go.RowKit
set_option linter.unusedVariables false
set_option linter.unusedSimpArgs false
attribute [local go_sem ↓] Go.wp_at_zero Go.wp_at_succ
/-- A sorted row of which one number is looked at. -/
def SortC (N q : Nat) (lo : Int) (w : World) (e : Ending) (w' : World) : Prop := ∃ b o c, e = .returned (.slice (some ⟨b, o, none⟩) N c) ∧ Hid (∀ W, Below w'.heap.size w' W → W.cell? ⟨b, o + q, none⟩ = some (.int .i64 lo)) ∧ Below w.heap.size w w'
theorem sortedC (B : Nat) (u : Value) (l : List Int) (N q : Nat) (lo : Int) (w : World) (hu : SeesI w B u l) (hB : B ≤ w.heap.size) (hn : l.length ≤ 64) (hN : l.length = N) (hq : q < N) (hlo : (srt l).getD q 0 = lo) :
    Calls Try.prog 34 #[u] w (SortC N q lo w) := by
  refine Calls.mono (sorted_any B u l w hu hB hn) ?_
  rintro e w' ⟨v, rfl, hs, hb⟩
  have hl : (srt l).length = N := by rw [srt_len, hN]
  obtain ⟨A, c, rfl, -, -⟩ := SeesI.mk_ hs
  obtain ⟨b, o, rfl, hbl, hc⟩ := SeesI.at_ hs (by omega)
  have hg : (srt l)[q]? = some lo := by
    rw [← hlo, List.getD_eq_getElem?_getD, List.getElem?_eq_getElem (by omega)]; rfl
  exact ⟨b, o, c, by rw [hl], fun W hW => (hW.cell (p := ⟨b, o + q, none⟩) hbl).trans (hc q lo hg), hb⟩
def TrR (T : TypeId) (Wd : World) (lo hi : Int) (v : Value) (W : World) : Prop := ∃ g, v = .pointer (some ⟨g, 0, none⟩) ∧ Box W g T [.int .i64 lo, .int .i64 hi] ∧ Below Wd.heap.size Wd W ∧ Wd.heap.size ≤ g
theorem tr_new {T : TypeId} {Wd W : World} {lo hi : Int} (h : Below Wd.heap.size Wd W) : TrR T Wd lo hi (.pointer (some ⟨W.heap.size, 0, none⟩)) (W.alloc (.cells #[.int .i64 lo, .int .i64 hi] T)) := ⟨W.heap.size, rfl, Box.new W T [.int .i64 lo, .int .i64 hi], bgo h (balloc _ _), h.size⟩
theorem tr_set {T : TypeId} {Wd W : World} {lo hi : Int} {g : Nat} {a b : Value} (x : Box W g T [a, b]) (h : Below Wd.heap.size Wd W) (hg : Wd.heap.size ≤ g) : TrR T Wd lo hi (.pointer (some ⟨g, 0, none⟩)) ((W.setCell ⟨g, 0, none⟩ (.int .i64 lo)).setCell ⟨g, 1, none⟩ (.int .i64 hi)) := ⟨g, rfl, box_set2 x _ _, below_set2 h hg _ _, hg⟩
set_option maxRecDepth 100000 in
set_option maxHeartbeats 8000000 in
theorem rtrim_any (B : Nat) (u : Value) (l : List Sp) (f : Int) (w : World) (hu : SeesS w B u l) (hB : B ≤ w.heap.size) (hn : l.length ≤ 64) :
    Calls Try.prog 20 #[u, .int .i64 f] w (TrimP l f w) := by
  have x4 := Box.new w 28 [.int .i64 0, .int .i64 0]
  change Box (w.alloc (.cells #[.int .i64 0, .int .i64 0] 28)) _ _ _ at x4
  have hal := balloc w (.cells #[.int .i64 0, .int .i64 0] 28)
  have hu1 := SeesS.below hu (hal.mono hB)
  have hck := rqcheck_any B u l f _ hu1 (Nat.le_trans hB hal.size) hn
  obtain ⟨A, c, rfl, -, -⟩ := hu.mk_
  replace hal := Lib.hid hal
  replace hu := Lib.hid hu
  clear hu1
  by_cases hq : qchkC l f = 0
  · have hbd := qchk_ok hq
    obtain ⟨-, b1, b2⟩ := hbd
    obtain ⟨F, rfl⟩ := Int.eq_ofNat_of_zero_le b1
    rw [hq] at hck
    replace hck := Lib.hid hck
    have htc : Hid (trC l (F : Int) = if tLo l (F : Int) ≤ tHi l (F : Int) then 0 else 21) := by show _ = _; unfold trC; rw [if_pos hq]
    replace hq := Lib.hid hq
    go_enter Try.func20, Try.ntmps20
    go_upto_region 1 with (fail)
    generalize w.alloc (.cells #[.int .i64 0, .int .i64 0] 28) = W0 at *
    generalize hgg : w.heap.size = g4 at x4 ⊢
    replace hgg := Lib.hid hgg
    go_wp2_with fail
    refine hck.out.mono ?_
    rintro e W1 ⟨rfl, hb1⟩
    have hbw := Lib.hid (bgo hal.out hb1)
    replace x4 := Lib.hid (x4.below hb1)
    clear hck hal hb1
    dsimp only
    go_wp2_with fail
    go_loopw [7, 8, 9] (fun v u i wr => ∃ k : Nat, k ≤ l.length ∧ i = .int .i64 k ∧ Hid (Two W1 wr v ((l.take k).map (·.1)) u ((l.take k).map (·.2)) [])) (fun _ _ i _ => l.length - (intOf i).toNat)
    case atStart => exact ⟨0, by omega, rfl, Two.start (Below.refl _ _)⟩
    case round =>
      obtain ⟨k, hk, rfl, ht⟩ := hrel
      obtain ⟨A7, n7, c7, rfl⟩ := ht.out.shape1
      obtain ⟨A8, n8, c8, rfl⟩ := ht.out.swap.shape1
      by_cases hlt : k < l.length
      · obtain ⟨b, o, rfl, hbB, hds⟩ := SeesS.at_ (Sees.below hu.out ((bgo hbw.out ht.out.below).mono hB)) (by omega)
        obtain ⟨s, hsk⟩ : ∃ s, l[k]? = some s := ⟨_, List.getElem?_eq_getElem hlt⟩
        obtain ⟨c0, c1⟩ := hds k s hsk
        have m1 := Lib.hid (map_take_snoc (fun s : Sp => s.1) hsk)
        have m2 := Lib.hid (map_take_snoc (fun s : Sp => s.2) hsk)
        have l1 : Hid (((l.take k).map (·.1)).length ≤ 1000) := by show _ ≤ _; rw [List.length_map]; exact Nat.le_trans (List.length_take_le _ _) (by omega)
        have l2 : Hid (((l.take k).map (·.2)).length ≤ 1000) := by show _ ≤ _; rw [List.length_map]; exact Nat.le_trans (List.length_take_le _ _) (by omega)
        obtain ⟨sl, sh⟩ := s
        dsimp only at c0 c1 m1 m2
        generalize (l.take k).map (·.1) = xs at *
        generalize (l.take k).map (·.2) = ys at *
        have i0 : (k : Int) < (l.length : Int) := by omega
        have i1 : (0 : Int) ≤ (k : Int) := by omega
        have t0 : Any2 W1 wr (.slice A7 n7 c7) xs (.slice A8 n8 c8) ys := ⟨_, ht.out⟩
        have hK : Hid (∀ W, Below W1.heap.size W1 W → W.cell? ⟨b, o + k * 2, none⟩ = some (.int .i64 sl) ∧ W.cell? ⟨b, o + k * 2 + 1, none⟩ = some (.int .i64 sh)) := fun W hW => by
          obtain ⟨b', o', e, -, hds'⟩ := SeesS.at_ (Sees.below hu.out ((bgo hbw.out hW).mono hB)) (by omega)
          cases e
          exact hds' k _ hsk
        replace hsk := Lib.hid hsk
        clear hds ht
        go_upto_region 8 with (fail)
        have t7 : True := trivial
        have t8 : True := trivial
        obtain ⟨B7, m7, d7, B8, m8, d8⟩ : Option Addr × Nat × Nat × Option Addr × Nat × Nat := ⟨none, 0, 0, none, 0, 0⟩
        go_region_held3 (fun W => W.cell? ⟨b, o + k * 2, none⟩ = some (.int .i64 sl) ∧ W.cell? ⟨b, o + k * 2 + 1, none⟩ = some (.int .i64 sh))
          ((refine hK.out _ ?_; apply Any2.below; (repeat (first | (with_reducible exact t0) | (with_reducible apply Any2.drew) | (with_reducible refine Any2.step ?_ t7) | (with_reducible refine Any2.step ?_ t8) | (with_reducible apply Any2.alloc)))))
          (first
            | (refine step_two1 (w0 := W1) (v := .slice A7 n7 c7) (xs := xs) (u := .slice A8 n8 c8) (ys := ys) (x := sl) (by rfl) (.tmp 24) (.tmp 30) (by rfl) (by rfl) (by rfl) ?_ ?_ ?_; (· (repeat (first | (with_reducible apply Has.drew) | (with_reducible refine Has.step ?_ t7) | (with_reducible refine Has.step ?_ t8) | (with_reducible refine Has.new ?_ (by first | (with_reducible rfl) | (simp; done))) | (with_reducible apply Has.old) | (with_reducible exact t0) | (with_reducible refine Any2.drew ?_) | (with_reducible refine Any2.step ?_ t7) | (with_reducible refine Any2.step ?_ t8) | (with_reducible refine Any2.alloc ?_ _ _)))); (· exact l1.out); intro v7 w7 t7; obtain ⟨B7, m7, d7, rfl⟩ : ∃ A n c, v7 = .slice A n c := (Any2.shape1 (Any2.step (by (repeat (first | (with_reducible apply Has.drew) | (with_reducible refine Has.step ?_ t7) | (with_reducible refine Has.step ?_ t8) | (with_reducible refine Has.new ?_ (by first | (with_reducible rfl) | (simp; done))) | (with_reducible apply Has.old) | (with_reducible exact t0) | (with_reducible refine Any2.drew ?_) | (with_reducible refine Any2.step ?_ t7) | (with_reducible refine Any2.step ?_ t8) | (with_reducible refine Any2.alloc ?_ _ _)))) t7)))
            | (refine step_two1 (w0 := W1) (v := .slice A7 n7 c7) (xs := xs) (u := .slice B8 m8 d8) (ys := (ys ++ [sh])) (x := sl) (by rfl) (.tmp 24) (.tmp 30) (by rfl) (by rfl) (by rfl) ?_ ?_ ?_; (· (repeat (first | (with_reducible apply Has.drew) | (with_reducible refine Has.step ?_ t7) | (with_reducible refine Has.step ?_ t8) | (with_reducible refine Has.new ?_ (by first | (with_reducible rfl) | (simp; done))) | (with_reducible apply Has.old) | (with_reducible exact t0) | (with_reducible refine Any2.drew ?_) | (with_reducible refine Any2.step ?_ t7) | (with_reducible refine Any2.step ?_ t8) | (with_reducible refine Any2.alloc ?_ _ _)))); (· exact l1.out); intro v7 w7 t7; obtain ⟨B7, m7, d7, rfl⟩ : ∃ A n c, v7 = .slice A n c := (Any2.shape1 (Any2.step (by (repeat (first | (with_reducible apply Has.drew) | (with_reducible refine Has.step ?_ t7) | (with_reducible refine Has.step ?_ t8) | (with_reducible refine Has.new ?_ (by first | (with_reducible rfl) | (simp; done))) | (with_reducible apply Has.old) | (with_reducible exact t0) | (with_reducible refine Any2.drew ?_) | (with_reducible refine Any2.step ?_ t7) | (with_reducible refine Any2.step ?_ t8) | (with_reducible refine Any2.alloc ?_ _ _)))) t7)))
            | (refine step_two2 (w0 := W1) (v := .slice A7 n7 c7) (xs := xs) (u := .slice A8 n8 c8) (ys := ys) (x := sh) (by rfl) (.tmp 32) (.tmp 38) (by rfl) (by rfl) (by rfl) ?_ ?_ ?_; (· (repeat (first | (with_reducible apply Has.drew) | (with_reducible refine Has.step ?_ t7) | (with_reducible refine Has.step ?_ t8) | (with_reducible refine Has.new ?_ (by first | (with_reducible rfl) | (simp; done))) | (with_reducible apply Has.old) | (with_reducible exact t0) | (with_reducible refine Any2.drew ?_) | (with_reducible refine Any2.step ?_ t7) | (with_reducible refine Any2.step ?_ t8) | (with_reducible refine Any2.alloc ?_ _ _)))); (· exact l2.out); intro v8 w8 t8; obtain ⟨B8, m8, d8, rfl⟩ : ∃ A n c, v8 = .slice A n c := (Any2.shape2 (Any2.step (by (repeat (first | (with_reducible apply Has.drew) | (with_reducible refine Has.step ?_ t7) | (with_reducible refine Has.step ?_ t8) | (with_reducible refine Has.new ?_ (by first | (with_reducible rfl) | (simp; done))) | (with_reducible apply Has.old) | (with_reducible exact t0) | (with_reducible refine Any2.drew ?_) | (with_reducible refine Any2.step ?_ t7) | (with_reducible refine Any2.step ?_ t8) | (with_reducible refine Any2.alloc ?_ _ _)))) t8)))
            | (refine step_two2 (w0 := W1) (v := .slice B7 m7 d7) (xs := (xs ++ [sl])) (u := .slice A8 n8 c8) (ys := ys) (x := sh) (by rfl) (.tmp 32) (.tmp 38) (by rfl) (by rfl) (by rfl) ?_ ?_ ?_; (· (repeat (first | (with_reducible apply Has.drew) | (with_reducible refine Has.step ?_ t7) | (with_reducible refine Has.step ?_ t8) | (with_reducible refine Has.new ?_ (by first | (with_reducible rfl) | (simp; done))) | (with_reducible apply Has.old) | (with_reducible exact t0) | (with_reducible refine Any2.drew ?_) | (with_reducible refine Any2.step ?_ t7) | (with_reducible refine Any2.step ?_ t8) | (with_reducible refine Any2.alloc ?_ _ _)))); (· exact l2.out); intro v8 w8 t8; obtain ⟨B8, m8, d8, rfl⟩ : ∃ A n c, v8 = .slice A n c := (Any2.shape2 (Any2.step (by (repeat (first | (with_reducible apply Has.drew) | (with_reducible refine Has.step ?_ t7) | (with_reducible refine Has.step ?_ t8) | (with_reducible refine Has.new ?_ (by first | (with_reducible rfl) | (simp; done))) | (with_reducible apply Has.old) | (with_reducible exact t0) | (with_reducible refine Any2.drew ?_) | (with_reducible refine Any2.step ?_ t7) | (with_reducible refine Any2.step ?_ t8) | (with_reducible refine Any2.alloc ?_ _ _)))) t8))))
        all_goals
          rename_i hHeld
          clear hHeld c0 c1
          go_wp2_with fail
          go_roundw
          case rel =>
            refine ⟨k + 1, by omega, by go_num, ?_⟩
            show Two _ _ _ _ _ _ _
            rw [m1.out, m2.out]
            apply Any2.two
            (repeat (first | (with_reducible apply Has.drew) | (with_reducible refine Has.step ?_ t7) | (with_reducible refine Has.step ?_ t8) | (with_reducible refine Has.new ?_ (by first | (with_reducible rfl) | (simp; done))) | (with_reducible apply Has.old) | (with_reducible exact t0) | (with_reducible refine Any2.drew ?_) | (with_reducible refine Any2.step ?_ t7) | (with_reducible refine Any2.step ?_ t8) | (with_reducible refine Any2.alloc ?_ _ _)))
          case measure => simp [intOf]; omega
      · obtain rfl : k = l.length := by omega
        have i0 : ¬ (l.length : Int) < (l.length : Int) := by omega
        rw [List.take_of_length_le (Nat.le_refl _)] at ht
        have hbr := Lib.hid ht.out.below
        have r1 := ht.out.r1
        have r2 := ht.out.r2
        have hsep := Lib.hid ht.out.sep
        have hx1 : (l.map (·.1)).length = l.length := List.length_map _
        have hx2 : (l.map (·.2)).length = l.length := List.length_map _
        have htl : Hid ((srt (l.map (·.1))).getD (l.length - 1 - F) 0 = tLo l (F : Int)) := rfl
        have hth : Hid ((srt (l.map (·.2))).getD F 0 = tHi l (F : Int)) := rfl
        rw [hx1] at r1
        rw [hx2] at r2
        generalize l.map (·.1) = xs at *
        generalize l.map (·.2) = ys at *
        obtain ⟨g7, cap7, e7, g7B, -, -, -, -⟩ := own_form r1 (by omega)
        injection e7 with e7 e7n e7'
        subst e7 e7n e7'
        obtain ⟨g8, cap8, e8, g8B, -, -, -, -⟩ := own_form r2 (by omega)
        injection e8 with e8 e8n e8'
        subst e8 e8n e8'
        obtain ⟨Wd, rfl⟩ : ∃ Wd : World, Wd = wr := ⟨_, rfl⟩
        obtain ⟨q, hqq⟩ : ∃ q, l.length - 1 - F = q := ⟨_, rfl⟩
        rw [hqq] at htl
        have hp7 : Hid (∀ W, Below Wd.heap.size Wd W → Calls Try.prog 34 #[.slice (some ⟨g7, 0, none⟩) l.length c7] W (SortC l.length q (tLo l (F : Int)) W)) := fun W hW => sortedC W.heap.size _ xs l.length q _ W (by have := Sees.of_own (own_below r1 hW); unfold SeesI; rw [hx1]; exact this) (Nat.le_refl _) (by omega) hx1 (by omega) htl.out
        have hp8 : Hid (∀ W, Below Wd.heap.size Wd W → Calls Try.prog 34 #[.slice (some ⟨g8, 0, none⟩) l.length c8] W (SortC l.length F (tHi l (F : Int)) W)) := fun W hW => sortedC W.heap.size _ ys l.length F _ W (by have := Sees.of_own (own_below r2 hW); unfold SeesI; rw [hx2]; exact this) (Nat.le_refl _) (by omega) hx2 (by omega) hth.out
        have e1 : IntKind.i64.wrap ((l.length : Int) - 1) = (l.length : Int) - 1 := by rw [IntKind.wrap_i64]; omega
        have e2 : IntKind.i64.wrap ((l.length : Int) - 1 - (F : Int)) = (q : Int) := by rw [IntKind.wrap_i64]; omega
        have i1 : (0 : Int) ≤ (q : Int) := by omega
        have i2 : (q : Int) < (l.length : Int) := by omega
        have i3 : (0 : Int) ≤ (F : Int) := by omega
        have i4 : (F : Int) < (l.length : Int) := by omega
        replace hqq := Lib.hid hqq
        clear htl hth r1 r2 ht hsep hx1 hx2
        generalize hlo : tLo l (F : Int) = lo at *
        generalize hhi : tHi l (F : Int) = hi at *
        replace hlo := Lib.hid hlo
        replace hhi := Lib.hid hhi
        have hbwr := Lib.hid (bgo hbw.out hbr.out)
        have bx : True := trivial
        have hc7 : True := trivial
        have hc8 : True := trivial
        have gx : True := trivial
        obtain ⟨w7, w8⟩ : World × World := ⟨W0, W0⟩
        go_upto_region 9 with (fail)
        go_cut [10] (fun v W => TrR 28 Wd lo hi v W)
        case first =>
          go_region_with (first
            | ((with_reducible refine (hp7.out Wd.drew (bdrew _)).mono ?_); rintro e w7 ⟨b7, o7, d7, rfl, hz7, hb7⟩; have z7 := hz7.out w7 (Below.refl _ _); have z7a := fun q => hz7.out (w7.alloc q) (balloc _ _); have hc7 := bgo (bdrew _) hb7)
            | ((with_reducible refine (hp7.out (Wd.alloc (.cells #[.int .i64 0, .int .i64 0] 28)).drew (bgo (balloc _ _) (bdrew _))).mono ?_); rintro e w7 ⟨b7, o7, d7, rfl, hz7, hb7⟩; have z7 := hz7.out w7 (Below.refl _ _); have z7a := fun q => hz7.out (w7.alloc q) (balloc _ _); have hc7 := bgo (bgo (balloc _ _) (bdrew _)) hb7; have bx := ((Box.new Wd 28 [.int .i64 0, .int .i64 0]).below (bdrew _)).below hb7; have gx := Nat.le_refl Wd.heap.size; obtain ⟨p0, p1, p2, p3⟩ := box2_cells bx)
            | (have _b := box2_cells bx; (with_reducible refine (hp7.out w8 hc8).mono ?_); rintro e w7 ⟨b7, o7, d7, rfl, hz7, hb7⟩; have z7 := hz7.out w7 (Below.refl _ _); have z7a := fun q => hz7.out (w7.alloc q) (balloc _ _); have hc7 := bgo hc8 hb7; have z8' := hz8.out w7 hb7; have z8a' := fun q => hz8.out (w7.alloc q) (bgo hb7 (balloc _ _)); replace bx := bx.below hb7; clear _b; obtain ⟨p0, p1, p2, p3⟩ := box2_cells bx)
            | ((with_reducible refine (hp7.out w8 hc8).mono ?_); rintro e w7 ⟨b7, o7, d7, rfl, hz7, hb7⟩; have z7 := hz7.out w7 (Below.refl _ _); have z7a := fun q => hz7.out (w7.alloc q) (balloc _ _); have hc7 := bgo hc8 hb7; have z8' := hz8.out w7 hb7; have z8a' := fun q => hz8.out (w7.alloc q) (bgo hb7 (balloc _ _)))
            | ((with_reducible refine (hp7.out (w8.alloc (.cells #[.int .i64 0, .int .i64 0] 28)) (bgo hc8 (balloc _ _))).mono ?_); rintro e w7 ⟨b7, o7, d7, rfl, hz7, hb7⟩; have z7 := hz7.out w7 (Below.refl _ _); have z7a := fun q => hz7.out (w7.alloc q) (balloc _ _); have hc7 := bgo (bgo hc8 (balloc _ _)) hb7; have z8' := hz8.out w7 (bgo (balloc _ _) hb7); have z8a' := fun q => hz8.out (w7.alloc q) (bgo (bgo (balloc _ _) hb7) (balloc _ _)); have bx := (Box.new w8 28 [.int .i64 0, .int .i64 0]).below hb7; have gx := hc8.size; obtain ⟨p0, p1, p2, p3⟩ := box2_cells bx)
            | ((with_reducible refine (hp8.out Wd.drew (bdrew _)).mono ?_); rintro e w8 ⟨b8, o8, d8, rfl, hz8, hb8⟩; have z8 := hz8.out w8 (Below.refl _ _); have z8a := fun q => hz8.out (w8.alloc q) (balloc _ _); have hc8 := bgo (bdrew _) hb8)
            | ((with_reducible refine (hp8.out (Wd.alloc (.cells #[.int .i64 0, .int .i64 0] 28)).drew (bgo (balloc _ _) (bdrew _))).mono ?_); rintro e w8 ⟨b8, o8, d8, rfl, hz8, hb8⟩; have z8 := hz8.out w8 (Below.refl _ _); have z8a := fun q => hz8.out (w8.alloc q) (balloc _ _); have hc8 := bgo (bgo (balloc _ _) (bdrew _)) hb8; have bx := ((Box.new Wd 28 [.int .i64 0, .int .i64 0]).below (bdrew _)).below hb8; have gx := Nat.le_refl Wd.heap.size; obtain ⟨p0, p1, p2, p3⟩ := box2_cells bx)
            | (have _b := box2_cells bx; (with_reducible refine (hp8.out w7 hc7).mono ?_); rintro e w8 ⟨b8, o8, d8, rfl, hz8, hb8⟩; have z8 := hz8.out w8 (Below.refl _ _); have z8a := fun q => hz8.out (w8.alloc q) (balloc _ _); have hc8 := bgo hc7 hb8; have z7' := hz7.out w8 hb8; have z7a' := fun q => hz7.out (w8.alloc q) (bgo hb8 (balloc _ _)); replace bx := bx.below hb8; clear _b; obtain ⟨p0, p1, p2, p3⟩ := box2_cells bx)
            | ((with_reducible refine (hp8.out w7 hc7).mono ?_); rintro e w8 ⟨b8, o8, d8, rfl, hz8, hb8⟩; have z8 := hz8.out w8 (Below.refl _ _); have z8a := fun q => hz8.out (w8.alloc q) (balloc _ _); have hc8 := bgo hc7 hb8; have z7' := hz7.out w8 hb8; have z7a' := fun q => hz7.out (w8.alloc q) (bgo hb8 (balloc _ _)))
            | ((with_reducible refine (hp8.out (w7.alloc (.cells #[.int .i64 0, .int .i64 0] 28)) (bgo hc7 (balloc _ _))).mono ?_); rintro e w8 ⟨b8, o8, d8, rfl, hz8, hb8⟩; have z8 := hz8.out w8 (Below.refl _ _); have z8a := fun q => hz8.out (w8.alloc q) (balloc _ _); have hc8 := bgo (bgo hc7 (balloc _ _)) hb8; have z7' := hz7.out w8 (bgo (balloc _ _) hb8); have z7a' := fun q => hz7.out (w8.alloc q) (bgo (bgo (balloc _ _) hb8) (balloc _ _)); have bx := (Box.new w7 28 [.int .i64 0, .int .i64 0]).below hb8; have gx := hc7.size; obtain ⟨p0, p1, p2, p3⟩ := box2_cells bx))
          all_goals
            go_wp2_with fail
            go_meet
            first
              | (with_reducible exact tr_new hc8)
              | (with_reducible exact tr_set bx hc8 gx)
        case rest =>
        obtain ⟨g11, rfl, x11, hb4, hg11⟩ := hcut
        obtain ⟨W4, rfl⟩ : ∃ W4 : World, W4 = wc := ⟨_, rfl⟩
        have x4w := x4.out.below (bgo hbr.out hb4)
        have hbf := Lib.hid (bgo hbwr.out hb4)
        clear hb4 hp7 hp8 e1 e2
        obtain ⟨y0, y1⟩ := boxT2 x11
        obtain ⟨k0, k1, k2, k3⟩ := box2_cells x4w
        by_cases hle : lo ≤ hi
        · have htc2 : Hid (trC l (F : Int) = 0) := by show _ = _; rw [htc.out, if_pos hle]
          have x9 := box_set2 x4w (.int .i64 lo) (.int .i64 hi)
          have hb9 := Lib.hid (below_set2 (g := g4) hbf.out (Nat.le_of_eq hgg.out) (.int .i64 lo) (.int .i64 hi))
          go_wp2_with fail
          clear k0 k1 k2 k3 y0 y1
          obtain ⟨k0, k1⟩ := boxT2 x9
          refine bodyPost_ret (v := .tuple #[.agg #[.int .i64 lo, .int .i64 hi], .int .i64 0]) (by simp [results, Try.results20, go_sem, k0, k1]) rfl ?_
          exact trim_ok htc2.out hlo.out hhi.out hb9.out
        · have htc2 : Hid (trC l (F : Int) = 21) := by show _ = _; rw [htc.out, if_neg hle]
          have x9 := box_set2 x4w (.int .i64 0) (.int .i64 0)
          have hb9 := Lib.hid (below_set2 (g := g4) hbf.out (Nat.le_of_eq hgg.out) (.int .i64 0) (.int .i64 0))
          go_wp2_with fail
          clear k0 k1 k2 k3 y0 y1
          obtain ⟨k0, k1⟩ := boxT2 x9
          refine bodyPost_ret (v := .tuple #[.agg #[.int .i64 0, .int .i64 0], .int .i64 21]) (by simp [results, Try.results20, go_sem, k0, k1]) rfl ?_
          exact trim_bad htc2.out (by omega) hb9.out
  · have htc : Hid (trC l f = qchkC l f) := by show _ = _; unfold trC; rw [if_neg hq]
    replace hck := Lib.hid hck
    obtain ⟨c, hc⟩ : ∃ c, qchkC l f = c := ⟨_, rfl⟩
    rw [hc] at hck hq htc
    replace hc := Lib.hid hc
    have i0 : (c == 0) = false := by simpa using hq
    have i1 : (c != 0) = true := by simpa using hq
    go_enter Try.func20, Try.ntmps20
    go_upto_region 1 with (fail)
    generalize w.alloc (.cells #[.int .i64 0, .int .i64 0] 28) = W0 at *
    generalize hgg : w.heap.size = g4 at x4 ⊢
    replace hgg := Lib.hid hgg
    go_wp2_with fail
    refine hck.out.mono ?_
    rintro e w1 ⟨rfl, hb1⟩
    have hbw := Lib.hid (bgo hal.out hb1)
    replace x4 := x4.below hb1
    clear hck hal hb1
    dsimp only
    obtain ⟨k0, k1, k2, k3⟩ := box2_cells x4
    have x7 := box_set2 x4 (.int .i64 0) (.int .i64 0)
    have hb9 := Lib.hid (below_set2 (g := g4) hbw.out (Nat.le_of_eq hgg.out) (.int .i64 0) (.int .i64 0))
    go_wp2_with fail
    clear k0 k1 k2 k3
    obtain ⟨k0, k1⟩ := boxT2 x7
    refine bodyPost_ret (v := .tuple #[.agg #[.int .i64 0, .int .i64 0], .int .i64 c]) (by simp [results, Try.results20, go_sem, k0, k1]) rfl ?_
    exact trim_bad htc.out hq hb9.out
end Go.Proofs.Ytiiaghmdajdbbaa

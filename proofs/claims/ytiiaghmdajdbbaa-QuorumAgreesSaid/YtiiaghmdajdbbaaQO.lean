/- Contract of sectimeref35.Outside. Conditions: the spans are seen, at most 64. -/
import Derived.Test.YtiiaghmdajdbbaaQN
namespace Go.Proofs.Ytiiaghmdajdbbaa
open Go.RowKit
set_option linter.unusedVariables false
set_option linter.unusedSimpArgs false
attribute [local go_sem ↓] Go.wp_at_zero Go.wp_at_succ
set_option maxRecDepth 100000 in
set_option maxHeartbeats 4000000 in
theorem routside_any (B : Nat) (u : Value) (l : List Sp) (f : Int) (w : World) (hu : SeesS w B u l) (hB : B ≤ w.heap.size) (hn : l.length ≤ 64) :
    Calls Try.prog 18 #[u, .int .i64 f] w (OutP l f w) := by
  have hag := Lib.hid (rqagree_any B u l f w hu hB hn)
  obtain ⟨A, c, rfl, -, -⟩ := hu.mk_
  obtain ⟨ti, hti, htz, hts, htb⟩ := info_parts int_info
  replace hti := Lib.hid hti
  replace htz := Lib.hid htz
  replace hts := Lib.hid hts
  replace htb := Lib.hid htb
  replace hu := Lib.hid hu
  go_enter Try.func18, Try.ntmps18
  go_wp2_with fail
  refine hag.out.mono ?_
  rintro e w1 ⟨o, ho, rfl, hb1⟩
  cases o with
  | none =>
    have hcn := ho.none_c
    obtain ⟨c9, hc9⟩ : ∃ c9, agC l f none = c9 := ⟨_, rfl⟩
    rw [hc9] at hcn ⊢
    replace hc9 := Lib.hid hc9
    replace ho := Lib.hid ho
    have i0 : (c9 == 0) = false := by simpa using hcn
    have i1 : (c9 != 0) = true := by simpa using hcn
    have hbw := Lib.hid (bgo hb1 (balloc w1 (.cells #[.int .i64 0, .int .i64 0] 28)))
    clear hag hb1
    dsimp only [Option.getD]
    go_wp2_with fail
    go_returns
    exact out_no ho.out hc9.out hbw.out
  | some s =>
    obtain ⟨lo, hi⟩ := s
    have hc9 := ho.some_c
    rw [hc9]
    replace hc9 := Lib.hid hc9
    replace ho := Lib.hid ho
    have x6 := Box.new w1 28 [.int .i64 lo, .int .i64 hi]
    change Box (w1.alloc (.cells #[.int .i64 lo, .int .i64 hi] 28)) _ _ _ at x6
    have hal := balloc w1 (.cells #[.int .i64 lo, .int .i64 hi] 28)
    have hbw := Lib.hid (bgo hb1 hal)
    clear hag hb1 hal
    dsimp only [Option.getD]
    go_upto_region 2 with (fail)
    generalize w1.alloc (.cells #[.int .i64 lo, .int .i64 hi] 28) = W0 at *
    generalize w1.heap.size = g6 at *
    have hz0 : Hid (w.heap.size ≤ W0.heap.size) := hbw.out.size
    replace x6 := Lib.hid x6
    go_wp2_with fail
    go_loopw [8, 9, 10, 11] (fun v i _ _ wr => ∃ k : Nat, k ≤ l.length ∧ i = .int .i64 k ∧ Hid (Acc W0 wr v (outN l lo hi k))) (fun _ i _ _ _ => l.length - (intOf i).toNat)
    case atStart => exact ⟨0, by omega, rfl, Acc.nil (Below.refl _ _)⟩
    case round =>
      obtain ⟨k, hk, rfl, hs⟩ := hrel
      obtain ⟨nn, hnn⟩ : ∃ nn, (outN l lo hi k).length = nn := ⟨_, rfl⟩
      obtain ⟨As, cs, rfl, -, -⟩ := (Sees.of_own hs.out.1).mk_
      have hbr : Hid (Below W0.heap.size W0 wr) := hs.out.2
      have hbwr : Hid (Below w.heap.size w wr) := bgo hbw.out hbr.out
      have hnl := outN_len l lo hi k
      have hsm : Hid (wr.ownsRow W0.heap.size 3 1 (.slice As nn cs) nn (viI (outN l lo hi k))) := by show World.ownsRow _ _ _ _ _ _ _; rw [← hnn]; exact hs.out.1
      rw [hnn] at hnl hs ⊢
      by_cases hlt : k < l.length
      · obtain ⟨b, o, rfl, hbB, hds⟩ := SeesS.at_ (Sees.below hu.out (hbwr.out.mono hB)) (by omega)
        obtain ⟨s, hsk⟩ : ∃ s, l[k]? = some s := ⟨_, List.getElem?_eq_getElem hlt⟩
        obtain ⟨c0, c1⟩ := hds k s hsk
        obtain ⟨sl, sh⟩ := s
        dsimp only at c0 c1
        have i0 : (k : Int) < (l.length : Int) := by omega
        have i1 : (0 : Int) ≤ (k : Int) := by omega
        have hme := Lib.hid (fun W => rmeet_any sl sh lo hi W)
        have hK : Hid (∀ W, Below wr.heap.size wr W → (W.cell? ⟨b, o + k * 2, none⟩ = some (.int .i64 sl) ∧ W.cell? ⟨b, o + k * 2 + 1, none⟩ = some (.int .i64 sh)) ∧ W.cell? ⟨g6, 0, none⟩ = some (.int .i64 lo) ∧ W.cell? ⟨g6, 1, none⟩ = some (.int .i64 hi)) := fun W hW => by
          obtain ⟨b', o', e, -, hds'⟩ := SeesS.at_ (Sees.below hu.out ((bgo hbwr.out hW).mono hB)) (by omega)
          cases e
          exact ⟨hds' k _ hsk, boxT2 (x6.out.below (bgo hbr.out hW))⟩
        obtain ⟨z0, z1⟩ := (hK.out wr (Below.refl _ _)).2
        replace hsk := Lib.hid hsk
        replace hnn := Lib.hid hnn
        clear hds hs hbwr
        go_upto_region 8 with (fail)
        go_cut [11] (fun v W => v = .bool (meB sl sh lo hi) ∧ Hid (Below wr.heap.size wr W))
        case first =>
          go_region_held3 (fun W => (W.cell? ⟨b, o + k * 2, none⟩ = some (.int .i64 sl) ∧ W.cell? ⟨b, o + k * 2 + 1, none⟩ = some (.int .i64 sh)) ∧ W.cell? ⟨g6, 0, none⟩ = some (.int .i64 lo) ∧ W.cell? ⟨g6, 1, none⟩ = some (.int .i64 hi))
            (first | (with_reducible exact hK.out _ (below_set2 hbm (Nat.le_refl _) _ _)) | (with_reducible exact hK.out _ (bgo (below_set2 hbm (Nat.le_refl _) _ _) (bdrew _))) | exact hK.out _ (by (repeat (first | exact Below.refl _ _ | (refine bgo ?_ (balloc _ _)) | (refine bgo ?_ (bdrew _)) | (refine bgo ?_ (by assumption))))))
            (first
              | ((with_reducible refine (hme.out (wr.alloc (.cells #[.int .i64 0, .int .i64 0] 28)).drew).mono ?_); rintro e w2 ⟨mx, my, rfl, hbm⟩; have bz := ((Box.new wr 28 [.int .i64 0, .int .i64 0]).below (bdrew _)).below hbm; replace hbm := bgo (bgo (balloc wr _) (bdrew _)) hbm; obtain ⟨q0, q1, q2, q3⟩ := box2_cells bz)
              | ((with_reducible refine (hme.out wr.drew).mono ?_); rintro e w2 ⟨mx, my, rfl, hbm⟩; replace hbm := bgo (bdrew wr) hbm))
          all_goals
            go_wp2_with fail
            go_meet
            first
              | (with_reducible exact ⟨rfl, Lib.hid (below_set2 hbm (Nat.le_refl _) _ _)⟩)
              | (with_reducible exact ⟨rfl, Lib.hid (bgo hbm (balloc w2 _))⟩)
              | (with_reducible exact ⟨rfl, Lib.hid (bgo (bgo hbm (balloc w2 _)) (bdrew _))⟩)
              | (trace_state; sorry)
        case rest =>
        obtain ⟨rfl, hb4⟩ := hcut
        obtain ⟨w4, rfl⟩ : ∃ w4 : World, w4 = wc := ⟨_, rfl⟩
        replace hsm := Lib.hid (own_below hsm.out hb4.out)
        replace hbr := Lib.hid (bgo hbr.out hb4.out)
        clear hb4 hK z0 z1
        cases hq : meB sl sh lo hi with
        | true =>
          replace hq := Lib.hid hq
          have hnew : Hid (Acc W0 w4 (.slice As nn cs) (outN l lo hi (k + 1))) := out_stay (q := true) hsk.out hq.out ⟨by rw [hnn.out]; exact hsm.out, hbr.out⟩
          go_wp2_with fail
          go_roundw
          case rel => exact ⟨k + 1, by omega, by go_num, hnew⟩
          case measure => simp [intOf]; omega
        | false =>
          replace hq := Lib.hid hq
          have hrec : Hid (Sees (w4.alloc (.cells #[.int .i64 (k : Int)] 3)) (w4.heap.size + 1) (.slice (some ⟨w4.heap.size, 0, none⟩) 1 1) 1 1 [.int .i64 (k : Int)]) := rec_lit w4 3 [.int .i64 (k : Int)]
          have hal := balloc w4 (.cells #[.int .i64 (k : Int)] 3)
          replace hsm := Lib.hid (own_below hsm.out hal)
          replace hbr := Lib.hid (bgo hbr.out hal)
          have hzz : Hid (W0.heap.size ≤ (w4.alloc (.cells #[.int .i64 (k : Int)] 3)).heap.size) := hbr.out.size
          have hlt2 : Hid (∀ j, (Value.slice As nn cs).ownBlock = some j → W0.heap.size ≤ j) := fun j hj => (hsm.out.lt j hj).1
          clear hal
          go_wp2_with (at_builtin; refine wpList_append_sees (by rfl) _ _ 22 rfl W0.heap.size 3 ti _ 1 8 Try.underlying22 hti.out htz.out hts.out htb.out rfl (by omega) _ nn _ rfl hsm.out _ _ 1 _ rfl hrec.out (by simp [Value.oneCell']) (by unfold maxLen; omega) (by omega) hzz.out ?_)
          intro v3 w3 s3 g3 d3
          have hb3 := bgrowO hbr.out g3 hlt2.out hzz.out
          have hnew := Lib.hid (out_push hsk.out hq.out hnn.out s3 hb3)
          clear g3 d3 hsm hrec hzz hlt2 hbr s3 hb3
          go_wp2_with fail
          go_roundw
          case rel => exact ⟨k + 1, by omega, by go_num, hnew⟩
          case measure => simp [intOf]; omega
      · have hke : Hid (k = l.length) := by show _ = _; omega
        have i0 : ¬ (k : Int) < (l.length : Int) := by omega
        replace hs : Hid (Acc W0 wr (.slice As nn cs) (outN l lo hi k)) := hs
        replace hnn := Lib.hid hnn
        go_wp2_with fail
        go_returns
        exact out_yes ho.out hke.out hs.out hbwr.out
end Go.Proofs.Ytiiaghmdajdbbaa

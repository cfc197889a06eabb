/- Contracts of quorum.Outside and sectimeref35.Outside. Conditions: the spans are seen, at most 64. -/
import Derived.Test.YtiiaghmdajdbbaaQM
namespace Go.Proofs.Ytiiaghmdajdbbaa
open Go.RowKit
set_option linter.unusedVariables false
set_option linter.unusedSimpArgs false
attribute [local go_sem ↓] Go.wp_at_zero Go.wp_at_succ
/-- The places of the first k spans that have nothing in common with a span. -/
def outN (l : List Sp) (a b : Int) : Nat → List Int
  | 0 => []
  | k + 1 => outN l a b k ++ (match l[k]? with | some s => if meB s.1 s.2 a b = true then [] else [(k : Int)] | none => [])
theorem outN_step {l : List Sp} {a b lo hi : Int} {k : Nat} (h : l[k]? = some (lo, hi)) : outN l a b (k + 1) = outN l a b k ++ if meB lo hi a b = true then [] else [(k : Int)] := by
  rw [outN, h]
theorem outN_len (l : List Sp) (a b : Int) (k : Nat) : (outN l a b k).length ≤ k := by
  induction k with
  | zero => exact Nat.le_refl _
  | succ k ih =>
    rw [outN, List.length_append]
    cases l[k]? with
    | none => simp; omega
    | some s =>
      dsimp only
      split
      · simp; omega
      · simp; omega
def outX (l : List Sp) : Option Sp → List Int
  | some s => outN l s.1 s.2 l.length
  | none => []
def OutP (l : List Sp) (f : Int) (w : World) (e : Ending) (w' : World) : Prop := ∃ o v, AgO l f o ∧ e = .returned (.tuple #[v, .int .i64 (agC l f o)]) ∧ Lit w' v (outX l o) ∧ Below w.heap.size w w'
theorem AgO.some_c {l : List Sp} {f : Int} {s : Sp} (h : AgO l f (some s)) : agC l f (some s) = 0 := by
  unfold AgO at h
  unfold agC
  by_cases hq : qchkC l f = 0
  · rw [if_pos hq]; rfl
  · rw [if_neg hq] at h; cases h
theorem AgO.none_c {l : List Sp} {f : Int} (h : AgO l f none) : agC l f none ≠ 0 := by
  unfold agC
  by_cases hq : qchkC l f = 0
  · rw [if_pos hq]; simp
  · rw [if_neg hq]; exact hq
theorem out_no {l : List Sp} {f c : Int} {w w' : World} (h : AgO l f none) (hc : agC l f none = c) (hb : Below w.heap.size w w') : OutP l f w (.returned (.tuple #[.slice none 0 0, .int .i64 c])) w' := by
  subst hc; exact ⟨none, _, h, rfl, Sees.nil _ _ _, hb⟩
theorem out_yes {l : List Sp} {f lo hi : Int} {w w' w0 : World} {v : Value} {k : Nat} (h : AgO l f (some (lo, hi))) (hk : k = l.length) (ho : Acc w0 w' v (outN l lo hi k)) (hb : Below w.heap.size w w') : OutP l f w (.returned (.tuple #[v, .int .i64 0])) w' := by
  subst hk; exact ⟨some (lo, hi), v, h, by rw [h.some_c], Sees.of_own ho.1, hb⟩
theorem out_stay {l : List Sp} {a b : Int} {k : Nat} {q : Bool} {w0 w : World} {v : Value} {lo hi : Int} (hs : l[k]? = some (lo, hi)) (hq : meB lo hi a b = true) (h : Acc w0 w v (outN l a b k)) : Acc w0 w v (outN l a b (k + 1)) := by
  rw [outN_step hs, if_pos hq, List.append_nil]; exact h
theorem out_push {l : List Sp} {a b : Int} {k : Nat} {w0 w : World} {v : Value} {lo hi : Int} {n : Nat} (hs : l[k]? = some (lo, hi)) (hq : meB lo hi a b = false) (hn : (outN l a b k).length = n) (h : w.ownsRow w0.heap.size 3 1 v (n + 1) (viI (outN l a b k) ++ [.int .i64 (k : Int)])) (hb : Below w0.heap.size w0 w) : Acc w0 w v (outN l a b (k + 1)) := by
  rw [outN_step hs, hq]
  refine ⟨?_, hb⟩
  rw [if_neg (by simp), List.length_append, hn, viI_append]
  exact h
set_option maxRecDepth 100000 in
set_option maxHeartbeats 4000000 in
theorem outside_any (B : Nat) (u : Value) (l : List Sp) (f : Int) (w : World) (hu : SeesS w B u l) (hB : B ≤ w.heap.size) (hn : l.length ≤ 64) :
    Calls Try.prog 15 #[u, .int .i64 f] w (OutP l f w) := by
  have hag := Lib.hid (qagree_any B u l f w hu hB hn)
  obtain ⟨A, c, rfl, -, -⟩ := hu.mk_
  obtain ⟨ti, hti, htz, hts, htb⟩ := info_parts int_info
  replace hti := Lib.hid hti
  replace htz := Lib.hid htz
  replace hts := Lib.hid hts
  replace htb := Lib.hid htb
  replace hu := Lib.hid hu
  go_enter Try.func15, Try.ntmps15
  go_wp2_with fail
  refine hag.out.mono ?_
  rintro e w1 ⟨o, ho, rfl, hb1⟩
  cases o with
  | none =>
    have hcn := ho.none_c
    obtain ⟨c9, hc9⟩ : ∃ c9, agC l f none = c9 := ⟨_, rfl⟩
    rw [hc9] at hcn ⊢
    replace hc9 := Lib.hid hc9
    replace ho := Lib.hid ho
    have i0 : (c9 == 0) = false := by simpa using hcn
    have i1 : (c9 != 0) = true := by simpa using hcn
    have hbw := Lib.hid (bgo hb1 (balloc w1 (.cells #[.int .i64 0, .int .i64 0] 28)))
    clear hag hb1
    dsimp only [Option.getD]
    go_wp2_with fail
    go_returns
    exact out_no ho.out hc9.out hbw.out
  | some s =>
    obtain ⟨lo, hi⟩ := s
    have hc9 := ho.some_c
    rw [hc9]
    replace hc9 := Lib.hid hc9
    replace ho := Lib.hid ho
    have x6 := Box.new w1 28 [.int .i64 lo, .int .i64 hi]
    change Box (w1.alloc (.cells #[.int .i64 lo, .int .i64 hi] 28)) _ _ _ at x6
    have hal := balloc w1 (.cells #[.int .i64 lo, .int .i64 hi] 28)
    have hbw := Lib.hid (bgo hb1 hal)
    clear hag hb1 hal
    dsimp only [Option.getD]
    go_upto_region 2 with (fail)
    generalize w1.alloc (.cells #[.int .i64 lo, .int .i64 hi] 28) = W0 at *
    generalize w1.heap.size = g6 at *
    have hz0 : Hid (w.heap.size ≤ W0.heap.size) := hbw.out.size
    replace x6 := Lib.hid x6
    go_wp2_with fail
    go_loopw [8, 9, 10, 11, 12, 24] (fun v _ _ _ _ i wr => ∃ k : Nat, k ≤ l.length ∧ i = .int .i64 k ∧ Hid (Acc W0 wr v (outN l lo hi k))) (fun _ _ _ _ _ i _ => l.length - (intOf i).toNat)
    case atStart => exact ⟨0, by omega, rfl, Acc.nil (Below.refl _ _)⟩
    case round =>
      obtain ⟨k, hk, rfl, hs⟩ := hrel
      obtain ⟨nn, hnn⟩ : ∃ nn, (outN l lo hi k).length = nn := ⟨_, rfl⟩
      obtain ⟨As, cs, rfl, -, -⟩ := (Sees.of_own hs.out.1).mk_
      have hbr : Hid (Below W0.heap.size W0 wr) := hs.out.2
      have hbwr : Hid (Below w.heap.size w wr) := bgo hbw.out hbr.out
      have hnl := outN_len l lo hi k
      have hsm : Hid (wr.ownsRow W0.heap.size 3 1 (.slice As nn cs) nn (viI (outN l lo hi k))) := by show World.ownsRow _ _ _ _ _ _ _; rw [← hnn]; exact hs.out.1
      rw [hnn] at hnl hs ⊢
      by_cases hlt : k < l.length
      · obtain ⟨b, o, rfl, hbB, hds⟩ := SeesS.at_ (Sees.below hu.out (hbwr.out.mono hB)) (by omega)
        obtain ⟨s, hsk⟩ : ∃ s, l[k]? = some s := ⟨_, List.getElem?_eq_getElem hlt⟩
        obtain ⟨c0, c1⟩ := hds k s hsk
        obtain ⟨sl, sh⟩ := s
        dsimp only at c0 c1
        have i0 : (k : Int) < (l.length : Int) := by omega
        have i1 : (0 : Int) ≤ (k : Int) := by omega
        have hme := Lib.hid (fun W => meet_any sl sh lo hi W)
        have x10 := Box.new wr 28 [.int .i64 sl, .int .i64 sh]
        change Box (wr.alloc (.cells #[.int .i64 sl, .int .i64 sh] 28)) _ _ _ at x10
        have hal := balloc wr (.cells #[.int .i64 sl, .int .i64 sh] 28)
        have x6r := (x6.out.below hbr.out).below hal
        replace hsm := Lib.hid (own_below hsm.out hal)
        replace hbr := Lib.hid (bgo hbr.out hal)
        replace hsk := Lib.hid hsk
        replace hnn := Lib.hid hnn
        clear hds hal hs hbwr
        go_upto_region 8 with (fail)
        generalize wr.alloc (.cells #[.int .i64 sl, .int .i64 sh] 28) = W1 at *
        generalize wr.heap.size = g10 at *
        clear c0 c1
        obtain ⟨y0, y1⟩ := boxT2 x10
        obtain ⟨z0, z1⟩ := boxT2 x6r
        go_wp2_with fail
        refine (hme.out W1).mono ?_
        rintro e w2 ⟨mx, my, rfl, hbm⟩
        replace hsm := Lib.hid (own_below hsm.out hbm)
        replace hbr := Lib.hid (bgo hbr.out hbm)
        clear y0 y1 z0 z1 x10 x6r hbm
        have hal := balloc w2 (.cells #[.int .i64 mx, .int .i64 my] 28)
        replace hsm := Lib.hid (own_below hsm.out hal)
        replace hbr := Lib.hid (bgo hbr.out hal)
        clear hal
        dsimp only
        go_upto_region 9 with (fail)
        generalize w2.alloc (.cells #[.int .i64 mx, .int .i64 my] 28) = W3 at *
        cases hq : meB sl sh lo hi with
        | true =>
          replace hq := Lib.hid hq
          have hnew : Hid (Acc W0 W3 (.slice As nn cs) (outN l lo hi (k + 1))) := out_stay (q := true) hsk.out hq.out ⟨by rw [hnn.out]; exact hsm.out, hbr.out⟩
          go_wp2_with fail
          go_roundw
          case rel => exact ⟨k + 1, by omega, by go_num, hnew⟩
          case measure => simp [intOf]; omega
        | false =>
          replace hq := Lib.hid hq
          have hrec : Hid (Sees (W3.alloc (.cells #[.int .i64 (k : Int)] 3)) (W3.heap.size + 1) (.slice (some ⟨W3.heap.size, 0, none⟩) 1 1) 1 1 [.int .i64 (k : Int)]) := rec_lit W3 3 [.int .i64 (k : Int)]
          have hal := balloc W3 (.cells #[.int .i64 (k : Int)] 3)
          replace hsm := Lib.hid (own_below hsm.out hal)
          replace hbr := Lib.hid (bgo hbr.out hal)
          have hzz : Hid (W0.heap.size ≤ (W3.alloc (.cells #[.int .i64 (k : Int)] 3)).heap.size) := hbr.out.size
          have hlt2 : Hid (∀ j, (Value.slice As nn cs).ownBlock = some j → W0.heap.size ≤ j) := fun j hj => (hsm.out.lt j hj).1
          clear hal
          go_wp2_with (at_builtin; refine wpList_append_sees (by rfl) _ _ 22 rfl W0.heap.size 3 ti _ 1 8 Try.underlying22 hti.out htz.out hts.out htb.out rfl (by omega) _ nn _ rfl hsm.out _ _ 1 _ rfl hrec.out (by simp [Value.oneCell']) (by unfold maxLen; omega) (by omega) hzz.out ?_)
          intro v3 w3 s3 g3 d3
          have hb3 := bgrowO hbr.out g3 hlt2.out hzz.out
          have hnew := Lib.hid (out_push hsk.out hq.out hnn.out s3 hb3)
          clear g3 d3 hsm hrec hzz hlt2 hbr s3 hb3
          go_wp2_with fail
          go_roundw
          case rel => exact ⟨k + 1, by omega, by go_num, hnew⟩
          case measure => simp [intOf]; omega
      · have hke : Hid (k = l.length) := by show _ = _; omega
        have i0 : ¬ (k : Int) < (l.length : Int) := by omega
        replace hs : Hid (Acc W0 wr (.slice As nn cs) (outN l lo hi k)) := hs
        replace hnn := Lib.hid hnn
        go_wp2_with fail
        go_returns
        exact out_yes ho.out hke.out hs.out hbwr.out
end Go.Proofs.Ytiiaghmdajdbbaa

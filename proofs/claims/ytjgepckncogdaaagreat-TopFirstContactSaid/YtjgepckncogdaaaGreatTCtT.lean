/- What a law leans on beyond the base: contracts, plain functions, walks. Conditions: those of each theorem. -/
import Derived.Test.YtjgepckncogdaaaGreatTCtK
set_option linter.unusedVariables false
set_option linter.unusedSimpArgs false
namespace Go.Proofs.YtjgepckncogdaaaGreat
open Go Go.RowKit
set_option linter.unusedVariables false
set_option linter.unusedSimpArgs false
attribute [local go_sem ↓] Go.wp_at_zero Go.wp_at_succ
def smallW (ws : List Sp) : Prop := ∀ s ∈ ws, 0 ≤ s.1 ∧ s.1 ≤ s.2 ∧ s.2 ≤ 10000
def WinsP (g : Nat) (u : Value) (l : List Int) (w : World) (e : Ending) (w' : World) : Prop :=
 ∃ v ws k, e = .returned v ∧ w'.ownsRow w.heap.size 24 2 v ws.length (spV ws) ∧ 1 ≤ ws.length ∧ ws.length ≤ 3 ∧ smallW ws ∧ TapeAt w' g u l k ∧ w.grownBy w' (some g)
theorem spV_snoc (ws : List Sp) (a b : Int) : spV ws ++ [.int .i64 a, .int .i64 b] = spV (ws ++ (a, b) :: []) := by rw [spV_append]; rfl
theorem grown_app {w W W' : World} {g : Nat} {r : Option Nat} (h : w.grownBy W (some g)) (h2 : W.grownBy W' r) (hr : ∀ j, r = some j → w.heap.size ≤ j) : w.grownBy W' (some g) :=
 ⟨h2.os.trans h.os, h2.tape.trans h.tape, h2.output.trans h.output, Nat.le_trans h.size h2.size, fun k hk hne => (h2.block k (Nat.lt_of_lt_of_le hk h.size) (fun e => by have := hr k e.symm; omega)).trans (h.block k hk hne)⟩
set_option maxRecDepth 100000 in
set_option maxHeartbeats 4000000 in
theorem kwindows_any (g : Nat) (u : Value) (l : List Int) (k0 : Nat) (w : World) (ht : TapeAt w g u l k0) :
 Calls Tryz.prog 36 #[.pointer (some ⟨g, 0, none⟩)] w (WinsP g u l w) := by
 obtain ⟨ti, hti, htz, hts, htb⟩ := info_parts span_info
 replace hti := Lib.hid hti
 replace htz := Lib.hid htz
 replace hts := Lib.hid hts
 replace htb := Lib.hid htb
 have hgl : Hid (g < w.heap.size) := ht.1.lt
 have hin := Lib.hid (fun (n : Int) (hn : 1 ≤ n) (hn2 : n ≤ 1048576) W k (h : TapeAt W g u l k) => tint_any g u l k n W h hn hn2)
 have hr1 := Int.emod_nonneg (l.getD k0 0) (show (3 : Int) ≠ 0 by omega)
 have hr2 := Int.emod_lt_of_pos (l.getD k0 0) (show (0 : Int) < 3 by omega)
 obtain ⟨N, hN⟩ : ∃ N : Nat, (1 : Int) + l.getD k0 0 % 3 = (N : Int) := ⟨(1 + l.getD k0 0 % 3).toNat, by omega⟩
 have hN1 : 1 ≤ N := by omega
 have hN3 : N ≤ 3 := by omega
 have hin0 := Lib.hid (hin.out 3 (by omega) (by omega) w k0 ht)
 go_enter Tryz.func36, Tryz.ntmps36
 go_wp2_with fail
 refine hin0.out.mono ?_
 rintro e w1 ⟨rfl, t1, g1⟩
 generalize l.getD k0 0 % 3 = r at *
 replace t1 := Lib.hid t1
 replace g1 := Lib.hid g1
 clear hin0 ht
 dsimp only
 go_wp2_with fail
 go_loopw [3, 4] (fun o t wr => ∃ (ws : List Sp) (k : Nat), ws.length ≤ N ∧ t = .int .i64 ((N - ws.length : Nat) : Int) ∧ Hid (wr.ownsRow w.heap.size 24 2 o ws.length (spV ws)) ∧ Hid (smallW ws) ∧ Hid (TapeAt wr g u l k) ∧ Hid (w.grownBy wr (some g))) (fun _ t _ => (intOf t).toNat)
 case atStart => exact ⟨[], _, by simp, by first | (simp only [List.length_nil, Nat.sub_zero]; done) | (simp only [List.length_nil, Nat.sub_zero]; rw [← hN]), World.ownsRow_nil _ _ _ _, fun s hs => absurd hs (by simp), t1, g1⟩
 case round =>
  obtain ⟨ws, k, hk, rfl, ho, hsm, ht, hg⟩ := hrel
  obtain ⟨Ao, co, rfl, -, -⟩ := (Sees.of_own ho.out).mk_
  by_cases hlt : ws.length < N
  · have i0 : (0 : Int) < ((N - ws.length : Nat) : Int) := by omega
    have hi1 := Lib.hid (hin.out 40 (by omega) (by omega) wr k ht.out)
    have a1 := Int.emod_nonneg (l.getD k 0) (show (40 : Int) ≠ 0 by omega)
    have a2 := Int.emod_lt_of_pos (l.getD k 0) (show (0 : Int) < 40 by omega)
    go_wp2_with fail
    refine hi1.out.mono ?_
    rintro e w2 ⟨rfl, t2, g2⟩
    have hgl' := hgl.out
    have o2 := Lib.hid (row_tape ho.out g2 hgl')
    have hg2 := Lib.hid (ggo hg.out g2)
    have hi2 := Lib.hid (hin.out 60 (by omega) (by omega) w2 _ t2)
    have b1 := Int.emod_nonneg (l.getD (stepK l k) 0) (show (60 : Int) ≠ 0 by omega)
    have b2 := Int.emod_lt_of_pos (l.getD (stepK l k) 0) (show (0 : Int) < 60 by omega)
    generalize l.getD k 0 % 40 = lo at *
    clear hi1 t2 g2 ho hg ht
    dsimp only
    go_wp2_with fail
    refine hi2.out.mono ?_
    rintro e w3 ⟨rfl, t3, g3⟩
    have o3 := row_tape o2.out g3 hgl'
    have hg3 := ggo hg2.out g3
    generalize l.getD (stepK l k) 0 % 60 = y at *
    have hal := balloc w3 (.cells #[.int .i64 lo, .int .i64 (lo + 20 + y)] 24)
    have hrec : Hid (Sees (w3.alloc (.cells #[.int .i64 lo, .int .i64 (lo + 20 + y)] 24)) (w3.heap.size + 1) (.slice (some ⟨w3.heap.size, 0, none⟩) 1 1) 2 1 [.int .i64 lo, .int .i64 (lo + 20 + y)]) := rec_lit w3 24 [.int .i64 lo, .int .i64 (lo + 20 + y)]
    have o4 := Lib.hid (own_below o3 hal)
    have t4 := Lib.hid (t3.grown hal)
    have hg4 := Lib.hid (ggo hg3 (grown_of_below hal (some g)))
    have hz4 : Hid (w.heap.size ≤ (w3.alloc (.cells #[.int .i64 lo, .int .i64 (lo + 20 + y)] 24)).heap.size) := hg4.out.size
    clear hi2 o2 hg2 o3 hg3 t3 g3 hal
    dsimp only
    go_wp2_with (at_builtin; refine wpList_append_sees (by rfl) _ _ 67 rfl w.heap.size 24 ti _ 2 16 Tryz.underlying67 hti.out htz.out hts.out htb.out rfl (by omega) _ ws.length _ rfl o4.out _ _ 1 _ rfl hrec.out (by simp [Value.oneCell']) (by unfold maxLen; omega) (by omega) hz4.out ?_)
    intro v5 w5 o5 g5 d5
    obtain ⟨Bo, cb, rfl, -, -⟩ := (Sees.of_own o5).mk_
    have hlw := hgl.out
    have t5 := Lib.hid (t4.out.row g5 (fun j hj => by have := (o4.out.lt j hj).1; omega))
    have hg5 := Lib.hid (grown_app hg4.out g5 (fun j hj => (o4.out.lt j hj).1))
    have hlen : (ws ++ (lo, lo + 20 + y) :: []).length = ws.length + 1 := by simp
    have o6 : Hid (w5.ownsRow w.heap.size 24 2 (.slice Bo (ws.length + 1) cb) (ws ++ (lo, lo + 20 + y) :: []).length (spV (ws ++ (lo, lo + 20 + y) :: []))) := by
     show World.ownsRow _ _ _ _ _ _ _
     rw [hlen, ← spV_snoc]
     exact o5
    have hsm6 : Hid (smallW (ws ++ (lo, lo + 20 + y) :: [])) := fun s hs => by
     rcases List.mem_append.1 hs with h | h
     · exact hsm.out s h
     · rw [List.mem_singleton] at h; subst h; dsimp only; omega
    have e1 : ((N - ws.length : Nat) : Int) - 1 = ((N - (ws ++ (lo, lo + 20 + y) :: []).length : Nat) : Int) := by rw [hlen]; omega
    have e2 : (ws ++ (lo, lo + 20 + y) :: []).length ≤ N := by rw [hlen]; omega
    have e3 : ((N - (ws ++ (lo, lo + 20 + y) :: []).length : Nat) : Int).toNat < ((N - ws.length : Nat) : Int).toNat := by rw [hlen]; omega
    generalize ws ++ (lo, lo + 20 + y) :: [] = ws2 at *
    replace e3 := Lib.hid e3
    replace hlen := Lib.hid hlen
    clear o4 t4 hg4 hrec o5 g5 d5 hz4
    go_wp2_with fail
    go_roundw
    case rel => exact ⟨ws2, _, e2, by first | rfl | (rw [e1]) | (congr 1; omega), o6, hsm6, t5, hg5⟩
    case measure => first | exact e3.out | (simp only [intOf]; rw [e1]; exact e3.out)
  · have i0 : ¬ (0 : Int) < ((N - ws.length : Nat) : Int) := by omega
    have hlw : Hid (ws.length = N) := by show _ = _; omega
    go_wp2_with fail
    go_returns
    exact ⟨_, ws, k, rfl, ho.out, by have := hlw.out; omega, by have := hlw.out; omega, hsm.out, ht.out, hg.out⟩
end Go.Proofs.YtjgepckncogdaaaGreat

/- Contracts that a law leans on, and its walk. Conditions: those of each theorem. -/
import Derived.Test.YtemopnhhmilhbaaGreatGBFind
namespace Go.Proofs.YtemopnhhmilhbaaGreat
open Go Go.RowKit
set_option linter.unusedVariables false
set_option linter.unusedSimpArgs false
attribute [local go_sem ↓] Go.wp_at_zero Go.wp_at_succ
theorem link_mem {ls : List LinkG} {k : Nat} (h : k < ls.length) : linkT ls k ∈ ls := by
 rw [linkT, List.getD_eq_getElem?_getD, List.getElem?_eq_getElem h]
 exact List.getElem_mem h
set_option maxRecDepth 100000 in
set_option maxHeartbeats 1000000 in
theorem against_any (B B' : Nat) (u v : Value) (ls : List LinkG) (V : List (Int × Int)) (w : World) (i j : Nat) (hu : SeesR w B u 3 ls.length (linkS ls)) (hv : Sees w B' v 2 ls.length (spanC2 V)) (hVl : V.length = ls.length) (hi : i < ls.length) (hj : j < ls.length) :
 Calls Tryz.prog 77 #[u, v, .int .i64 (i : Int), .int .i64 (j : Int)] w fun e w' => e = .returned (.bool (agB ls V i j)) ∧ ∃ m, w' = w.drewN m := by
 obtain ⟨A, c, rfl, -, -⟩ := hu.mk_
 obtain ⟨A1, c1, rfl, -, -⟩ := hv.mk_
 obtain ⟨cv, b2, o2, hc2, hA2, hcell, hsl, hcs2⟩ := row_cells hu rfl
 obtain ⟨rfl, -⟩ := hA2 (by omega)
 obtain ⟨b1, o1, rfl, hb1l, hcs⟩ := hv.at_ (by omega)
 have hgt := spanC2_get V
 rw [hVl] at hgt
 obtain ⟨P0, n0, r0, y0⟩ := hsl (i * 3) (by omega)
 obtain ⟨P1, n1, r1, y1⟩ := hsl (j * 3) (by omega)
 have p0 := hcell (i * 3) (by omega)
 have p1 := hcell (j * 3) (by omega)
 have s0 := (hcs2 i (by omega)).1
 have s1 := (hcs2 j (by omega)).1
 rw [y0] at p0 s0
 rw [y1] at p1 s1
 have z0 := hcs _ _ (hgt i (by omega)).1
 have z1 := hcs _ _ (hgt j (by omega)).2
 rw [← Nat.add_assoc] at z1
 have hag : agB ls V i j = (((linkT ls i).1 == (linkT ls j).1) && decide ((V.getD j (0, 0)).2 < (V.getD i (0, 0)).1)) := rfl
 rw [hag]
 generalize (V.getD j (0, 0)).2 = hi2 at *
 generalize (V.getD i (0, 0)).1 = lo2 at *
 have heq := Lib.hid (fun k => rsame_any B B _ _ _ _ (w.drewN k) (s0.below (below_drewN (Below.refl _ _) k)) (s1.below (below_drewN (Below.refl _ _) k)))
 generalize ((linkT ls i).1 == (linkT ls j).1) = E at *
 have i1 : (i : Int) < (ls.length : Int) := by omega
 have i2 : (j : Int) < (ls.length : Int) := by omega
 clear hu hv hcell hsl hcs2 hcs hgt y0 y1 s0 s1 hag hA2
 cases E with
 | false =>
   go_enter Tryz.func77, Tryz.ntmps77
   go_upto_region 1 with (fail)
   go_quiet ((go_at_call 34; exact Calls.quiet_of_same (heq.out _)))
   go_wp2_with fail
   go_returns
   exact ⟨rfl, _, rfl⟩
 | true =>
   by_cases hlh : hi2 < lo2
   · have hd : decide (hi2 < lo2) = true := by simpa using hlh
     rw [hd]
     go_enter Tryz.func77, Tryz.ntmps77
     go_upto_region 1 with (fail)
     go_quiet ((go_at_call 34; exact Calls.quiet_of_same (heq.out _)))
     go_wp2_with fail
     go_returns
     exact ⟨rfl, _, rfl⟩
   · have hd : decide (hi2 < lo2) = false := by simpa using hlh
     rw [hd]
     go_enter Tryz.func77, Tryz.ntmps77
     go_upto_region 1 with (fail)
     go_quiet ((go_at_call 34; exact Calls.quiet_of_same (heq.out _)))
     go_wp2_with fail
     go_returns
     exact ⟨rfl, _, rfl⟩
end Go.Proofs.YtemopnhhmilhbaaGreat

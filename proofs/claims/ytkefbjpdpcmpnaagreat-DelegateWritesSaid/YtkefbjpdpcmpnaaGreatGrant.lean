/- Contracts of delegate.Grant and sectimeref30.Grant. Conditions: the seed and the key are seen, at most 65000 bytes of the key. -/
import Derived.Test.YtkefbjpdpcmpnaaGreatDelP
namespace Go.Proofs.YtkefbjpdpcmpnaaGreat
open Go Go.RowKit
set_option linter.unusedVariables false
set_option linter.unusedSimpArgs false
attribute [local go_sem ↓] Go.wp_at_zero Go.wp_at_succ
section
variable {W : World} {g8 g9 : Nat} {T8 T9 : TypeId} {a0 a1 a2 b0 b1 b2 b3 : Value}
theorem set34 (h8 : Box W g8 T8 [a0, a1, a2]) (h9 : Box W g9 T9 [b0, b1, b2, b3]) (hne : g8 ≠ g9) (x0 x1 x2 z0 z1 z2 z3 : Value) :
    Box (((((((W.setCell ⟨g8, 0, none⟩ x0).setCell ⟨g8, 1, none⟩ x1).setCell ⟨g8, 2, none⟩ x2).setCell ⟨g9, 0, none⟩ z0).setCell ⟨g9, 1, none⟩ z1).setCell ⟨g9, 2, none⟩ z2).setCell ⟨g9, 3, none⟩ z3) g8 T8 [x0, x1, x2] ∧ Box (((((((W.setCell ⟨g8, 0, none⟩ x0).setCell ⟨g8, 1, none⟩ x1).setCell ⟨g8, 2, none⟩ x2).setCell ⟨g9, 0, none⟩ z0).setCell ⟨g9, 1, none⟩ z1).setCell ⟨g9, 2, none⟩ z2).setCell ⟨g9, 3, none⟩ z3) g9 T9 [z0, z1, z2, z3] ∧ (∀ w : World, Below w.heap.size w W → w.heap.size ≤ g8 → w.heap.size ≤ g9 → Below w.heap.size w (((((((W.setCell ⟨g8, 0, none⟩ x0).setCell ⟨g8, 1, none⟩ x1).setCell ⟨g8, 2, none⟩ x2).setCell ⟨g9, 0, none⟩ z0).setCell ⟨g9, 1, none⟩ z1).setCell ⟨g9, 2, none⟩ z2).setCell ⟨g9, 3, none⟩ z3)) := by
  refine ⟨?_, ?_, fun w hb h1 h2 => ?_⟩
  · have y := ((h8.set 0 x0).set 1 x1).set 2 x2
    simp only [List.set_cons_zero, List.set_cons_succ] at y
    exact (((y.other hne).other hne).other hne).other hne
  · have y := ((((((h9.other (G := g8) (j := 0) (v := x0) hne.symm).other (j := 1) (v := x1) hne.symm).other (j := 2) (v := x2) hne.symm).set 0 z0).set 1 z1).set 2 z2).set 3 z3
    simpa only [List.set_cons_zero, List.set_cons_succ] using y
  · exact ((((((hb.setCell (p := ⟨g8, 0, none⟩) h1 _).setCell (p := ⟨g8, 1, none⟩) h1 _).setCell (p := ⟨g8, 2, none⟩) h1 _).setCell (p := ⟨g9, 0, none⟩) h2 _).setCell (p := ⟨g9, 1, none⟩) h2 _).setCell (p := ⟨g9, 2, none⟩) h2 _).setCell (p := ⟨g9, 3, none⟩) h2 _
theorem set43 (h8 : Box W g8 T8 [a0, a1, a2]) (h9 : Box W g9 T9 [b0, b1, b2, b3]) (hne : g8 ≠ g9) (x0 x1 x2 z0 z1 z2 z3 : Value) :
    Box (((((((W.setCell ⟨g9, 0, none⟩ z0).setCell ⟨g9, 1, none⟩ z1).setCell ⟨g9, 2, none⟩ z2).setCell ⟨g9, 3, none⟩ z3).setCell ⟨g8, 0, none⟩ x0).setCell ⟨g8, 1, none⟩ x1).setCell ⟨g8, 2, none⟩ x2) g8 T8 [x0, x1, x2] ∧ Box (((((((W.setCell ⟨g9, 0, none⟩ z0).setCell ⟨g9, 1, none⟩ z1).setCell ⟨g9, 2, none⟩ z2).setCell ⟨g9, 3, none⟩ z3).setCell ⟨g8, 0, none⟩ x0).setCell ⟨g8, 1, none⟩ x1).setCell ⟨g8, 2, none⟩ x2) g9 T9 [z0, z1, z2, z3] ∧ (∀ w : World, Below w.heap.size w W → w.heap.size ≤ g8 → w.heap.size ≤ g9 → Below w.heap.size w (((((((W.setCell ⟨g9, 0, none⟩ z0).setCell ⟨g9, 1, none⟩ z1).setCell ⟨g9, 2, none⟩ z2).setCell ⟨g9, 3, none⟩ z3).setCell ⟨g8, 0, none⟩ x0).setCell ⟨g8, 1, none⟩ x1).setCell ⟨g8, 2, none⟩ x2)) := by
  refine ⟨?_, ?_, fun w hb h1 h2 => ?_⟩
  · have y := ((((((h8.other (G := g9) (j := 0) (v := z0) hne).other (j := 1) (v := z1) hne).other (j := 2) (v := z2) hne).other (j := 3) (v := z3) hne).set 0 x0).set 1 x1).set 2 x2
    simpa only [List.set_cons_zero, List.set_cons_succ] using y
  · have y := (((h9.set 0 z0).set 1 z1).set 2 z2).set 3 z3
    simp only [List.set_cons_zero, List.set_cons_succ] at y
    exact ((y.other hne.symm).other hne.symm).other hne.symm
  · exact ((((((hb.setCell (p := ⟨g9, 0, none⟩) h2 _).setCell (p := ⟨g9, 1, none⟩) h2 _).setCell (p := ⟨g9, 2, none⟩) h2 _).setCell (p := ⟨g9, 3, none⟩) h2 _).setCell (p := ⟨g8, 0, none⟩) h1 _).setCell (p := ⟨g8, 1, none⟩) h1 _).setCell (p := ⟨g8, 2, none⟩) h1 _
theorem box_off3 (h9 : Box W g9 T9 [b0, b1, b2, b3]) (hne : g8 ≠ g9) (x0 x1 x2 : Value) : Box (((W.setCell ⟨g8, 0, none⟩ x0).setCell ⟨g8, 1, none⟩ x1).setCell ⟨g8, 2, none⟩ x2) g9 T9 [b0, b1, b2, b3] := ((h9.other hne.symm).other hne.symm).other hne.symm
/-- Bytes read behind both. -/
theorem sees34 (h8 : Box W g8 T8 [a0, a1, a2]) (h9 : Box W g9 T9 [b0, b1, b2, b3]) (n8 : NoByte [a0, a1, a2]) (n9 : NoByte [b0, b1, b2, b3]) (hne : g8 ≠ g9) (x0 x1 x2 z0 z1 z2 z3 : Value) {u : Value} {l : Bs} (h : SeesB W W.heap.size u l) : SeesB (((((((W.setCell ⟨g8, 0, none⟩ x0).setCell ⟨g8, 1, none⟩ x1).setCell ⟨g8, 2, none⟩ x2).setCell ⟨g9, 0, none⟩ z0).setCell ⟨g9, 1, none⟩ z1).setCell ⟨g9, 2, none⟩ z2).setCell ⟨g9, 3, none⟩ z3) (((((((W.setCell ⟨g8, 0, none⟩ x0).setCell ⟨g8, 1, none⟩ x1).setCell ⟨g8, 2, none⟩ x2).setCell ⟨g9, 0, none⟩ z0).setCell ⟨g9, 1, none⟩ z1).setCell ⟨g9, 2, none⟩ z2).setCell ⟨g9, 3, none⟩ z3).heap.size u l := by
  have y9 : Box (((W.setCell ⟨g8, 0, none⟩ x0).setCell ⟨g8, 1, none⟩ x1).setCell ⟨g8, 2, none⟩ x2) g9 T9 [b0, b1, b2, b3] := ((h9.other hne.symm).other hne.symm).other hne.symm
  have k8 := h.over (Nat.le_refl _) h8 n8 (ggo (ggo (setCell_grown W g8 0 x0) (setCell_grown _ g8 1 x1)) (setCell_grown _ g8 2 x2))
  have k9 := k8.over (by simp [World.setCell]) y9 n9 (ggo (ggo (ggo (setCell_grown _ g9 0 z0) (setCell_grown _ g9 1 z1)) (setCell_grown _ g9 2 z2)) (setCell_grown _ g9 3 z3))
  exact k9.more (by simp [World.setCell])
theorem sees43 (h8 : Box W g8 T8 [a0, a1, a2]) (h9 : Box W g9 T9 [b0, b1, b2, b3]) (n8 : NoByte [a0, a1, a2]) (n9 : NoByte [b0, b1, b2, b3]) (hne : g8 ≠ g9) (x0 x1 x2 z0 z1 z2 z3 : Value) {u : Value} {l : Bs} (h : SeesB W W.heap.size u l) : SeesB (((((((W.setCell ⟨g9, 0, none⟩ z0).setCell ⟨g9, 1, none⟩ z1).setCell ⟨g9, 2, none⟩ z2).setCell ⟨g9, 3, none⟩ z3).setCell ⟨g8, 0, none⟩ x0).setCell ⟨g8, 1, none⟩ x1).setCell ⟨g8, 2, none⟩ x2) (((((((W.setCell ⟨g9, 0, none⟩ z0).setCell ⟨g9, 1, none⟩ z1).setCell ⟨g9, 2, none⟩ z2).setCell ⟨g9, 3, none⟩ z3).setCell ⟨g8, 0, none⟩ x0).setCell ⟨g8, 1, none⟩ x1).setCell ⟨g8, 2, none⟩ x2).heap.size u l := by
  have y8 : Box ((((W.setCell ⟨g9, 0, none⟩ z0).setCell ⟨g9, 1, none⟩ z1).setCell ⟨g9, 2, none⟩ z2).setCell ⟨g9, 3, none⟩ z3) g8 T8 [a0, a1, a2] := (((h8.other hne).other hne).other hne).other hne
  have k9 := h.over (Nat.le_refl _) h9 n9 (ggo (ggo (ggo (setCell_grown W g9 0 z0) (setCell_grown _ g9 1 z1)) (setCell_grown _ g9 2 z2)) (setCell_grown _ g9 3 z3))
  have k8 := k9.over (by simp [World.setCell]) y8 n8 (ggo (ggo (setCell_grown _ g8 0 x0) (setCell_grown _ g8 1 x1)) (setCell_grown _ g8 2 x2))
  exact k8.more (by simp [World.setCell])
theorem noBL3' {a b c : Value} (ha : NoB a) (hb : NoB b) (hc : NoB c) : NoByte [a, b, c] := by
  intro x hx n e
  simp only [List.mem_cons, List.not_mem_nil, or_false] at hx
  rcases hx with rfl | rfl | rfl
  · exact ha n e
  · exact hb n e
  · exact hc n e
end
/-- What Grant returns: the signer (seed, height, next), the delegation (key, from, to, signature), the error. -/
def grantR (sd : Bs) (h n : Int) (p : Bs) (f t : Int) : (Bs × Int × Int) × (Bs × Int × Int × Bs) × Int :=
  if validI sd h n = true then
    (if p.length = 32 then
      (if vS f t = true then
        (if (signAll sd h n (tGrant ++ p ++ spanB f t)).2.2.2.2 = 0 then
          (((signAll sd h n (tGrant ++ p ++ spanB f t)).1, (signAll sd h n (tGrant ++ p ++ spanB f t)).2.1, (signAll sd h n (tGrant ++ p ++ spanB f t)).2.2.1), (p, f, t, (signAll sd h n (tGrant ++ p ++ spanB f t)).2.2.2.1), 0)
        else (([], 0, 0), ([], 0, 0, []), (signAll sd h n (tGrant ++ p ++ spanB f t)).2.2.2.2))
      else (([], 0, 0), ([], 0, 0, []), 3))
    else (([], 0, 0), ([], 0, 0, []), 5))
  else (([], 0, 0), ([], 0, 0, []), 3)
def GrantP (r : (Bs × Int × Int) × (Bs × Int × Int × Bs) × Int) (w : World) (e : Ending) (w' : World) : Prop :=
  ∃ v1 v2 v3, e = .returned (.tuple #[.agg #[v1, .int .i64 r.1.2.1, .int .i64 r.1.2.2], .agg #[v2, .int .i64 r.2.1.2.1, .int .i64 r.2.1.2.2.1, v3], .int .i64 r.2.2]) ∧ SeesB w' w'.heap.size v1 r.1.1 ∧ SeesB w' w'.heap.size v2 r.2.1.1 ∧ SeesB w' w'.heap.size v3 r.2.1.2.2.2 ∧ Below w.heap.size w w'
theorem grant_bad {r : (Bs × Int × Int) × (Bs × Int × Int × Bs) × Int} {c : Int} (h : r = (([], 0, 0), ([], 0, 0, []), c)) {w w' : World} (hb : Below w.heap.size w w') : GrantP r w (.returned (.tuple #[.agg #[.slice none 0 0, .int .i64 0, .int .i64 0], .agg #[.slice none 0 0, .int .i64 0, .int .i64 0, .slice none 0 0], .int .i64 c])) w' := by
  subst h
  exact ⟨_, _, _, rfl, SeesB.nil _ _, SeesB.nil _ _, SeesB.nil _ _, hb⟩
theorem box3_cells {W : World} {g : Nat} {T : TypeId} {a b c : Value} (h : Box W g T [a, b, c]) : W.cell? ⟨g, 0, none⟩ = some a ∧ W.cell? ⟨g, 1, none⟩ = some b ∧ W.cell? ⟨g, 2, none⟩ = some c ∧ W.frozen? ⟨g, 0, none⟩ = false ∧ W.frozen? ⟨g, 1, none⟩ = false ∧ W.frozen? ⟨g, 2, none⟩ = false := ⟨h.cell 0, h.cell 1, h.cell 2, h.frozen 0, h.frozen 1, h.frozen 2⟩
theorem box4_cells {W : World} {g : Nat} {T : TypeId} {a b c d : Value} (h : Box W g T [a, b, c, d]) : W.cell? ⟨g, 0, none⟩ = some a ∧ W.cell? ⟨g, 1, none⟩ = some b ∧ W.cell? ⟨g, 2, none⟩ = some c ∧ W.cell? ⟨g, 3, none⟩ = some d ∧ W.frozen? ⟨g, 0, none⟩ = false ∧ W.frozen? ⟨g, 1, none⟩ = false ∧ W.frozen? ⟨g, 2, none⟩ = false ∧ W.frozen? ⟨g, 3, none⟩ = false := ⟨h.cell 0, h.cell 1, h.cell 2, h.cell 3, h.frozen 0, h.frozen 1, h.frozen 2, h.frozen 3⟩
theorem grant_ok {r : (Bs × Int × Int) × (Bs × Int × Int × Bs) × Int} {rs p rg : Bs} {rh rn f t : Int} (h : r = ((rs, rh, rn), (p, f, t, rg), 0)) {w W : World} {v1 v2 v3 : Value} (t1 : SeesB W W.heap.size v1 rs) (t2 : SeesB W W.heap.size v2 p) (t3 : SeesB W W.heap.size v3 rg) (hb : Below w.heap.size w W.drew) : GrantP r w (.returned (.tuple #[.agg #[v1, .int .i64 rh, .int .i64 rn], .agg #[v2, .int .i64 f, .int .i64 t, v3], .int .i64 0])) W.drew := by
  subst h
  exact ⟨_, _, _, rfl, t1, t2, t3, hb⟩
theorem seven_drew {W : World} {g12 g11 : Nat} {x0 x1 x2 z0 z1 z2 z3 : Value} (h : W.cell? ⟨g12, 0, none⟩ = some x0 ∧ W.cell? ⟨g12, 1, none⟩ = some x1 ∧ W.cell? ⟨g12, 2, none⟩ = some x2 ∧ W.cell? ⟨g11, 0, none⟩ = some z0 ∧ W.cell? ⟨g11, 1, none⟩ = some z1 ∧ W.cell? ⟨g11, 2, none⟩ = some z2 ∧ W.cell? ⟨g11, 3, none⟩ = some z3) : W.drew.cell? ⟨g12, 0, none⟩ = some x0 ∧ W.drew.cell? ⟨g12, 1, none⟩ = some x1 ∧ W.drew.cell? ⟨g12, 2, none⟩ = some x2 ∧ W.drew.cell? ⟨g11, 0, none⟩ = some z0 ∧ W.drew.cell? ⟨g11, 1, none⟩ = some z1 ∧ W.drew.cell? ⟨g11, 2, none⟩ = some z2 ∧ W.drew.cell? ⟨g11, 3, none⟩ = some z3 := h
theorem below_set3 {w W : World} {g : Nat} (h : Below w.heap.size w W) (hg : w.heap.size ≤ g) (x y z : Value) : Below w.heap.size w (((W.setCell ⟨g, 0, none⟩ x).setCell ⟨g, 1, none⟩ y).setCell ⟨g, 2, none⟩ z) :=
  ((h.setCell (p := ⟨g, 0, none⟩) hg _).setCell (p := ⟨g, 1, none⟩) hg _).setCell (p := ⟨g, 2, none⟩) hg _
/-- What the signing region leaves: the next signer's block, the signature, the error. -/
def SgnR (w8 : World) (rs : Bs) (rh rn : Int) (rg : Bs) (rc : Int) (v12 v13 v14 : Value) (W : World) : Prop :=
  ∃ g A1 k1 A2 k2, v12 = .pointer (some ⟨g, 0, none⟩) ∧ v13 = .slice A2 rg.length k2 ∧ v14 = .int .i64 rc ∧ Box W g 39 [.slice A1 rs.length k1, .int .i64 rh, .int .i64 rn] ∧ SeesB W W.heap.size (.slice A1 rs.length k1) rs ∧ SeesB W W.heap.size (.slice A2 rg.length k2) rg ∧ w8.heap.size ≤ g ∧ Below w8.heap.size w8 W
theorem sgn_new (w8 w10 : World) (rs : Bs) (rh rn : Int) (rg : Bs) (rc : Int) (A1 : Option Addr) (k1 : Nat) (A2 : Option Addr) (k2 : Nat) (t1 : SeesB w10 w10.heap.size (.slice A1 rs.length k1) rs) (t2 : SeesB w10 w10.heap.size (.slice A2 rg.length k2) rg) (hb : Below w8.heap.size w8 w10) :
    SgnR w8 rs rh rn rg rc (.pointer (some ⟨w10.heap.size, 0, none⟩)) (.slice A2 rg.length k2) (.int .i64 rc) (w10.alloc (.cells #[.slice A1 rs.length k1, .int .i64 rh, .int .i64 rn] 39)) :=
  ⟨_, A1, k1, A2, k2, rfl, rfl, rfl, Box.new w10 39 [.slice A1 rs.length k1, .int .i64 rh, .int .i64 rn], seesB_of t1 (Nat.le_refl _) (balloc w10 _), seesB_of t2 (Nat.le_refl _) (balloc w10 _), hb.size, bgo hb (balloc _ _)⟩
theorem sgn_set (w8 w10 : World) (rs : Bs) (rh rn : Int) (rg : Bs) (rc : Int) (A1 : Option Addr) (k1 : Nat) (A2 : Option Addr) (k2 g : Nat) (bz : Box w10 g 39 [.slice none 0 0, .int .i64 0, .int .i64 0]) (t1 : SeesB w10 w10.heap.size (.slice A1 rs.length k1) rs) (t2 : SeesB w10 w10.heap.size (.slice A2 rg.length k2) rg) (hg : w8.heap.size ≤ g) (hb : Below w8.heap.size w8 w10) :
    SgnR w8 rs rh rn rg rc (.pointer (some ⟨g, 0, none⟩)) (.slice A2 rg.length k2) (.int .i64 rc) (((w10.setCell ⟨g, 0, none⟩ (.slice A1 rs.length k1)).setCell ⟨g, 1, none⟩ (.int .i64 rh)).setCell ⟨g, 2, none⟩ (.int .i64 rn)) := by
  have y := ((bz.set 0 (.slice A1 rs.length k1)).set 1 (.int .i64 rh)).set 2 (.int .i64 rn)
  simp only [List.set_cons_zero, List.set_cons_succ] at y
  have hgr := ggo (ggo (setCell_grown w10 g 0 (.slice A1 rs.length k1)) (setCell_grown _ g 1 (.int .i64 rh))) (setCell_grown _ g 2 (.int .i64 rn))
  have hz : (((w10.setCell ⟨g, 0, none⟩ (.slice A1 rs.length k1)).setCell ⟨g, 1, none⟩ (.int .i64 rh)).setCell ⟨g, 2, none⟩ (.int .i64 rn)).heap.size = w10.heap.size := by simp [World.setCell]
  exact ⟨g, A1, k1, A2, k2, rfl, rfl, rfl, y, by rw [hz]; exact t1.over (Nat.le_refl _) bz (noBL3' (NoB.s _ _ _) (NoB.i _) (NoB.i _)) hgr, by rw [hz]; exact t2.over (Nat.le_refl _) bz (noBL3' (NoB.s _ _ _) (NoB.i _) (NoB.i _)) hgr, hg, below_set3 hb hg _ _ _⟩
set_option maxRecDepth 100000 in
set_option maxHeartbeats 8000000 in
theorem grant_any (B : Nat) (u u2 : Value) (sd p : Bs) (h n f t : Int) (w : World) (hu : SeesB w B u sd) (hu2 : SeesB w B u2 p) (hB : B ≤ w.heap.size) (hp : p.length ≤ 65000) :
    Calls Tryz.prog 63 #[.agg #[u, .int .i64 h, .int .i64 n], u2, .int .i64 f, .int .i64 t] w (GrantP (grantR sd h n p f t) w) := by
  obtain ⟨As, cs, rfl, -, -⟩ := hu.mk_
  obtain ⟨Ap, cp, rfl, -, -⟩ := hu2.mk_
  have b1 := balloc w (.cells #[.slice As sd.length cs, .int .i64 h, .int .i64 n] 39)
  have b2 := bgo b1 (balloc _ (.cells #[.slice none 0 0, .int .i64 0, .int .i64 0] 39))
  have b3 := bgo b2 (balloc _ (.cells #[.slice none 0 0, .int .i64 0, .int .i64 0, .slice none 0 0] 37))
  have x4 := ((Box.new w 39 [.slice As sd.length cs, .int .i64 h, .int .i64 n]).below (balloc _ (.cells #[.slice none 0 0, .int .i64 0, .int .i64 0] 39))).below (balloc _ (.cells #[.slice none 0 0, .int .i64 0, .int .i64 0, .slice none 0 0] 37))
  have h8 := (Box.new (w.alloc (.cells #[.slice As sd.length cs, .int .i64 h, .int .i64 n] 39)) 39 [.slice none 0 0, .int .i64 0, .int .i64 0]).below (balloc _ (.cells #[.slice none 0 0, .int .i64 0, .int .i64 0, .slice none 0 0] 37))
  have h9 := Box.new ((w.alloc (.cells #[.slice As sd.length cs, .int .i64 h, .int .i64 n] 39)).alloc (.cells #[.slice none 0 0, .int .i64 0, .int .i64 0] 39)) 37 [.slice none 0 0, .int .i64 0, .int .i64 0, .slice none 0 0]
  rw [World.size_alloc] at h8
  rw [World.size_alloc, World.size_alloc] at h9
  have ss := seesB_of hu hB b3
  have sp := seesB_of hu2 hB b3
  have hcl := Lib.hid (bclone_any _ _ p _ sp (Nat.le_refl _) (by omega))
  have hg8 : w.heap.size ≤ w.heap.size + 1 := by omega
  have hg9 : w.heap.size ≤ w.heap.size + 1 + 1 := by omega
  have hne : w.heap.size + 1 ≠ w.heap.size + 1 + 1 := by omega
  replace hg8 := Lib.hid hg8
  replace hg9 := Lib.hid hg9
  replace hne := Lib.hid hne
  replace b3 := Lib.hid b3
  have hd : Hid (grantR sd h n p f t = grantR sd h n p f t) := rfl
  clear hu hu2 b1 b2
  go_enter Tryz.func63, Tryz.ntmps63
  go_wp2_with fail
  change Box (((w.alloc (.cells #[.slice As sd.length cs, .int .i64 h, .int .i64 n] 39)).alloc (.cells #[.slice none 0 0, .int .i64 0, .int .i64 0] 39)).alloc (.cells #[.slice none 0 0, .int .i64 0, .int .i64 0, .slice none 0 0] 37)) _ _ _ at x4 h8 h9
  generalize ((w.alloc (.cells #[.slice As sd.length cs, .int .i64 h, .int .i64 n] 39)).alloc (.cells #[.slice none 0 0, .int .i64 0, .int .i64 0] 39)).alloc (.cells #[.slice none 0 0, .int .i64 0, .int .i64 0, .slice none 0 0] 37) = W3 at *
  generalize hG9 : w.heap.size + 1 + 1 = g9 at *
  generalize hG8 : w.heap.size + 1 = g8 at *
  generalize hG4 : w.heap.size = g4 at x4 ⊢
  replace hG9 := Lib.hid hG9
  replace hG8 := Lib.hid hG8
  replace hG4 := Lib.hid hG4
  refine hcl.out.mono ?_
  rintro e w4 ⟨vc, rfl, f4, hb4⟩
  have sc := f4.sees
  obtain ⟨Ac, cc, rfl, -, -⟩ := f4.sees.mk_
  have hal := balloc w4 (.cells #[.slice Ac p.length cc, .int .i64 f, .int .i64 t, .slice none 0 0] 37)
  have x11 := Box.new w4 37 [.slice Ac p.length cc, .int .i64 f, .int .i64 t, .slice none 0 0]
  change Box (w4.alloc (.cells #[.slice Ac p.length cc, .int .i64 f, .int .i64 t, .slice none 0 0] 37)) _ _ _ at x11
  have q8 : g8 < w4.heap.size := (h8.below hb4).lt
  have q9 : g9 < w4.heap.size := (h9.below hb4).lt
  replace x4 := (x4.below hb4).below hal
  replace h8 := (h8.below hb4).below hal
  replace h9 := (h9.below hb4).below hal
  have ss5 := seesB_of ss (Nat.le_refl _) (bgo hb4 hal)
  have sc5 := seesB_of sc (Nat.le_refl _) hal
  have hbw := Lib.hid (bgo b3.out (bgo hb4 hal))
  replace q8 := Lib.hid q8
  replace q9 := Lib.hid q9
  dsimp only
  go_upto_region 2 with (fail)
  generalize w4.alloc (.cells #[.slice Ac p.length cc, .int .i64 f, .int .i64 t, .slice none 0 0] 37) = W5 at *
  generalize w4.heap.size = g11 at *
  have hva := Lib.hid (svalid_any _ (.slice As sd.length cs) sd h n W5 ss5)
  clear f4 sc ss sp hal hb4 hcl b3
  have c0 := x4.cell 0
  have c1 := x4.cell 1
  have c2 := x4.cell 2
  simp only [List.getElem?_cons_zero, List.getElem?_cons_succ] at c0 c1 c2
  cases hV : validI sd h n with
  | false =>
    rw [hV] at hva
    have hr : Hid (grantR sd h n p f t = (([], 0, 0), ([], 0, 0, []), 3)) := by show _ = _; rw [grantR, hV]; rfl
    replace hV := Lib.hid hV
    clear ss5 sc5
    replace h8 := Lib.hid h8
    replace h9 := Lib.hid h9
    go_wp2_with fail
    refine hva.out.mono ?_
    rintro e w6 ⟨rfl, hb6⟩
    replace h8 := h8.out.below hb6
    replace h9 := h9.out.below hb6
    replace hbw := Lib.hid (bgo hbw.out hb6)
    clear c0 c1 c2 x4 x11 hva
    dsimp only
    have y0 := h8.cell 0
    have y1 := h8.cell 1
    have y2 := h8.cell 2
    have y3 := (box_off3 h9 hne.out (.slice none 0 0) (.int .i64 0) (.int .i64 0)).cell 0
    have y4 := (box_off3 h9 hne.out (.slice none 0 0) (.int .i64 0) (.int .i64 0)).cell 1
    have y5 := (box_off3 h9 hne.out (.slice none 0 0) (.int .i64 0) (.int .i64 0)).cell 2
    have y6 := (box_off3 h9 hne.out (.slice none 0 0) (.int .i64 0) (.int .i64 0)).cell 3
    simp only [List.getElem?_cons_zero, List.getElem?_cons_succ] at y0 y1 y2 y3 y4 y5 y6
    have f0 := h8.frozen 0
    have f1 := h8.frozen 1
    have f2 := h8.frozen 2
    have f3 := (box_off3 h9 hne.out (.slice none 0 0) (.int .i64 0) (.int .i64 0)).frozen 0
    have f4 := (box_off3 h9 hne.out (.slice none 0 0) (.int .i64 0) (.int .i64 0)).frozen 1
    have f5 := (box_off3 h9 hne.out (.slice none 0 0) (.int .i64 0) (.int .i64 0)).frozen 2
    have f6 := (box_off3 h9 hne.out (.slice none 0 0) (.int .i64 0) (.int .i64 0)).frozen 3
    go_wp2_with fail
    obtain ⟨k8, k9, kb⟩ := set34 h8 h9 (hne.out) (.slice none 0 0) (.int .i64 0) (.int .i64 0) (.slice none 0 0) (.int .i64 0) (.int .i64 0) (.slice none 0 0)
    replace kb := Lib.hid (kb w hbw.out hg8.out hg9.out)
    clear y0 y1 y2 y3 y4 y5 y6 f0 f1 f2 f3 f4 f5 f6 h8 h9
    generalize ((((((w6.setCell ⟨g8, 0, none⟩ (.slice none 0 0)).setCell ⟨g8, 1, none⟩ (.int .i64 0)).setCell ⟨g8, 2, none⟩ (.int .i64 0)).setCell ⟨g9, 0, none⟩ (.slice none 0 0)).setCell ⟨g9, 1, none⟩ (.int .i64 0)).setCell ⟨g9, 2, none⟩ (.int .i64 0)).setCell ⟨g9, 3, none⟩ (.slice none 0 0) = W9 at *
    have z0 : W9.cell? ⟨g8, 0, none⟩ = some (.slice none 0 0) := k8.cell 0
    have z1 : W9.cell? ⟨g8, 1, none⟩ = some (.int .i64 0) := k8.cell 1
    have z2 : W9.cell? ⟨g8, 2, none⟩ = some (.int .i64 0) := k8.cell 2
    have z3 : W9.cell? ⟨g9, 0, none⟩ = some (.slice none 0 0) := k9.cell 0
    have z4 : W9.cell? ⟨g9, 1, none⟩ = some (.int .i64 0) := k9.cell 1
    have z5 : W9.cell? ⟨g9, 2, none⟩ = some (.int .i64 0) := k9.cell 2
    have z6 : W9.cell? ⟨g9, 3, none⟩ = some (.slice none 0 0) := k9.cell 3
    refine bodyPost_ret (v := .tuple #[.agg #[.slice none 0 0, .int .i64 0, .int .i64 0], .agg #[.slice none 0 0, .int .i64 0, .int .i64 0, .slice none 0 0], .int .i64 3]) (by simp [results, Tryz.results63, go_sem, z0, z1, z2, z3, z4, z5, z6]) rfl ?_
    exact grant_bad hr.out kb.out
  | true =>
    rw [hV] at hva
    replace h8 := Lib.hid h8
    replace h9 := Lib.hid h9
    replace x11 := Lib.hid x11
    replace ss5 := Lib.hid ss5
    replace sc5 := Lib.hid sc5
    go_wp2_with fail
    refine hva.out.mono ?_
    rintro e w6 ⟨rfl, hb6⟩
    replace h8 := Lib.hid (h8.out.below hb6)
    replace h9 := Lib.hid (h9.out.below hb6)
    replace x4 := x4.below hb6
    replace x11 := x11.out.below hb6
    replace ss5 := Lib.hid (seesB_of ss5.out (Nat.le_refl _) hb6)
    replace sc5 := Lib.hid (seesB_of sc5.out (Nat.le_refl _) hb6)
    replace hbw := Lib.hid (bgo hbw.out hb6)
    clear c0 c1 c2 hva hb6
    dsimp only
    by_cases hp32 : p.length = 32
    · have ip : ((p.length : Int) != 32) = false := by simp; omega
      replace hp32 := Lib.hid hp32
      have hdw := Lib.hid (fun W => dwindow_any Ac p.length cc none 0 0 f t W)
      have hvl := Lib.hid (fun W => valid_any f t W)
      have c0 := x11.cell 0
      have c1 := x11.cell 1
      have c2 := x11.cell 2
      have c3 := x11.cell 3
      simp only [List.getElem?_cons_zero, List.getElem?_cons_succ] at c0 c1 c2 c3
      go_wp2_with fail
      refine (hdw.out _).mono ?_
      rintro e w7 ⟨rfl, hb7⟩
      dsimp only
      go_wp2_with fail
      refine (hvl.out _).mono ?_
      rintro e w8 ⟨rfl, hb8⟩
      have hb68 := bgo hb7 hb8
      replace h8 := Lib.hid (h8.out.below hb68)
      replace h9 := Lib.hid (h9.out.below hb68)
      replace x4 := x4.below hb68
      replace x11 := x11.below hb68
      replace ss5 := Lib.hid (seesB_of ss5.out (Nat.le_refl _) hb68)
      replace sc5 := Lib.hid (seesB_of sc5.out (Nat.le_refl _) hb68)
      replace hbw := Lib.hid (bgo hbw.out hb68)
      clear c0 c1 c2 c3 hdw hvl hb7 hb8 hb68
      dsimp only
      cases hv : vS f t with
      | false =>
        have hr : Hid (grantR sd h n p f t = (([], 0, 0), ([], 0, 0, []), 3)) := by show _ = _; rw [grantR, if_pos hV, if_pos hp32.out, hv]; rfl
        replace hV := Lib.hid hV
        replace hv := Lib.hid hv
        replace h8 := h8.out
        replace h9 := h9.out
        clear x4 x11 ss5 sc5
        have y0 := h8.cell 0
        have y1 := h8.cell 1
        have y2 := h8.cell 2
        have y3 := (box_off3 h9 hne.out (.slice none 0 0) (.int .i64 0) (.int .i64 0)).cell 0
        have y4 := (box_off3 h9 hne.out (.slice none 0 0) (.int .i64 0) (.int .i64 0)).cell 1
        have y5 := (box_off3 h9 hne.out (.slice none 0 0) (.int .i64 0) (.int .i64 0)).cell 2
        have y6 := (box_off3 h9 hne.out (.slice none 0 0) (.int .i64 0) (.int .i64 0)).cell 3
        simp only [List.getElem?_cons_zero, List.getElem?_cons_succ] at y0 y1 y2 y3 y4 y5 y6
        have f0 := h8.frozen 0
        have f1 := h8.frozen 1
        have f2 := h8.frozen 2
        have f3 := (box_off3 h9 hne.out (.slice none 0 0) (.int .i64 0) (.int .i64 0)).frozen 0
        have f4 := (box_off3 h9 hne.out (.slice none 0 0) (.int .i64 0) (.int .i64 0)).frozen 1
        have f5 := (box_off3 h9 hne.out (.slice none 0 0) (.int .i64 0) (.int .i64 0)).frozen 2
        have f6 := (box_off3 h9 hne.out (.slice none 0 0) (.int .i64 0) (.int .i64 0)).frozen 3
        go_wp2_with fail
        obtain ⟨k8, k9, kb⟩ := set34 h8 h9 (hne.out) (.slice none 0 0) (.int .i64 0) (.int .i64 0) (.slice none 0 0) (.int .i64 0) (.int .i64 0) (.slice none 0 0)
        replace kb := Lib.hid (kb w hbw.out hg8.out hg9.out)
        clear y0 y1 y2 y3 y4 y5 y6 f0 f1 f2 f3 f4 f5 f6 h8 h9
        generalize ((((((w8.setCell ⟨g8, 0, none⟩ (.slice none 0 0)).setCell ⟨g8, 1, none⟩ (.int .i64 0)).setCell ⟨g8, 2, none⟩ (.int .i64 0)).setCell ⟨g9, 0, none⟩ (.slice none 0 0)).setCell ⟨g9, 1, none⟩ (.int .i64 0)).setCell ⟨g9, 2, none⟩ (.int .i64 0)).setCell ⟨g9, 3, none⟩ (.slice none 0 0) = W9 at *
        have z0 : W9.cell? ⟨g8, 0, none⟩ = some (.slice none 0 0) := k8.cell 0
        have z1 : W9.cell? ⟨g8, 1, none⟩ = some (.int .i64 0) := k8.cell 1
        have z2 : W9.cell? ⟨g8, 2, none⟩ = some (.int .i64 0) := k8.cell 2
        have z3 : W9.cell? ⟨g9, 0, none⟩ = some (.slice none 0 0) := k9.cell 0
        have z4 : W9.cell? ⟨g9, 1, none⟩ = some (.int .i64 0) := k9.cell 1
        have z5 : W9.cell? ⟨g9, 2, none⟩ = some (.int .i64 0) := k9.cell 2
        have z6 : W9.cell? ⟨g9, 3, none⟩ = some (.slice none 0 0) := k9.cell 3
        refine bodyPost_ret (v := .tuple #[.agg #[.slice none 0 0, .int .i64 0, .int .i64 0], .agg #[.slice none 0 0, .int .i64 0, .int .i64 0, .slice none 0 0], .int .i64 3]) (by simp [results, Tryz.results63, go_sem, z0, z1, z2, z3, z4, z5, z6]) rfl ?_
        exact grant_bad hr.out kb.out
      | true =>
        have hr : Hid (grantR sd h n p f t = if (signAll sd h n (tGrant ++ p ++ spanB f t)).2.2.2.2 = 0 then
          (((signAll sd h n (tGrant ++ p ++ spanB f t)).1, (signAll sd h n (tGrant ++ p ++ spanB f t)).2.1, (signAll sd h n (tGrant ++ p ++ spanB f t)).2.2.1), (p, f, t, (signAll sd h n (tGrant ++ p ++ spanB f t)).2.2.2.1), 0)
          else (([], 0, 0), ([], 0, 0, []), (signAll sd h n (tGrant ++ p ++ spanB f t)).2.2.2.2)) := by show _ = _; rw [grantR, if_pos hV, if_pos hp32.out, if_pos hv]
        have hsg := fun (W : World) (hW : Below w8.heap.size w8 W) => (show Calls Tryz.prog 132 #[.agg #[.slice Ac p.length cc, .int .i64 f, .int .i64 t, .slice none 0 0]] W (Gives (tGrant ++ p ++ spanB f t) W) from by
          have q := dsigned_any W.heap.size (.slice Ac p.length cc) none 0 0 p f t W (seesB_of sc5.out (Nat.le_refl _) hW) (Nat.le_refl _) (by omega)
          rw [show spanL f t = spanB f t by rw [spanL, if_pos hv]] at q
          exact q)
        have hm : (tGrant ++ p ++ spanB f t).length ≤ 65535 := by rw [List.length_append, List.length_append]; have := hp32.out; simp [tGrant, spanB, putB_len]; omega
        have hsn := fun (W : World) (v : Value) (hW : Below w8.heap.size w8 W) (hv : SeesB W W.heap.size v (tGrant ++ p ++ spanB f t)) => sign_all W.heap.size (.slice As sd.length cs) v sd (tGrant ++ p ++ spanB f t) h n W (seesB_of ss5.out (Nat.le_refl _) hW) hv (Nat.le_refl _) hm
        generalize tGrant ++ p ++ spanB f t = M at *
        generalize hsa : signAll sd h n M = r at *
        replace hsa := Lib.hid hsa
        replace hm := Lib.hid hm
        obtain ⟨rs, rh, rn, rg, rc⟩ := r
        dsimp only at hr
        unfold SignPost at hsn
        dsimp only at hsn
        have hs1 := Lib.hid (hsg w8.drew (bdrew w8))
        have hs2 := Lib.hid (hsg (w8.alloc (.cells #[.slice none 0 0, .int .i64 0, .int .i64 0] 39)).drew (bgo (balloc w8 _) (bdrew _)))
        clear hsg
        replace hsn := Lib.hid hsn
        have K : Hid (∀ W : World, Below w8.heap.size w8 W → (W.cell? ⟨g4, 0, none⟩ = some (.slice As sd.length cs) ∧ W.cell? ⟨g4, 1, none⟩ = some (.int .i64 h) ∧ W.cell? ⟨g4, 2, none⟩ = some (.int .i64 n)) ∧ W.cell? ⟨g11, 0, none⟩ = some (.slice Ac p.length cc) ∧ W.cell? ⟨g11, 1, none⟩ = some (.int .i64 f) ∧ W.cell? ⟨g11, 2, none⟩ = some (.int .i64 t) ∧ W.cell? ⟨g11, 3, none⟩ = some (.slice none 0 0)) := fun W hW =>
          ⟨⟨(x4.below hW).cell 0, (x4.below hW).cell 1, (x4.below hW).cell 2⟩, (x11.below hW).cell 0, (x11.below hW).cell 1, (x11.below hW).cell 2, (x11.below hW).cell 3⟩
        obtain ⟨⟨c0, c1, c2⟩, d0, d1, d2, d3⟩ := K.out w8 (Below.refl _ _)
        replace hV := Lib.hid hV
        replace hv := Lib.hid hv
        clear ip
        go_wp2_with fail
        go_cut [12, 13, 14] (fun v12 v13 v14 W => SgnR w8 rs rh rn rg rc v12 v13 v14 W)
        case first =>
          go_region_held3 (fun W' : World => (W'.cell? ⟨g4, 0, none⟩ = some (.slice As sd.length cs) ∧ W'.cell? ⟨g4, 1, none⟩ = some (.int .i64 h) ∧ W'.cell? ⟨g4, 2, none⟩ = some (.int .i64 n)) ∧ W'.cell? ⟨g11, 0, none⟩ = some (.slice Ac p.length cc) ∧ W'.cell? ⟨g11, 1, none⟩ = some (.int .i64 f) ∧ W'.cell? ⟨g11, 2, none⟩ = some (.int .i64 t) ∧ W'.cell? ⟨g11, 3, none⟩ = some (.slice none 0 0))
            (first | (with_reducible exact K.out _ hb10) | (with_reducible exact K.out _ (below_set3 hb10 hz9 _ _ _)) | (with_reducible exact K.out _ hb9) | exact K.out _ (by (repeat (first | exact Below.refl _ _ | (refine bgo ?_ (balloc _ _)) | (refine bgo ?_ (bdrew _)) | (refine bgo ?_ (by assumption))))) | (go_keep; done))
            (first
              | (go_at_call 103; (with_reducible refine (hsn.out (w9.alloc (.cells #[.slice none 0 0, .int .i64 0, .int .i64 0] 39)) _ (bgo hb9 (balloc w9 _)) (seesB_of s9 (Nat.le_refl _) (balloc w9 _))).mono ?_); rintro e w10 ⟨v1, v2, rfl, t1, t2, hb10⟩
                 obtain ⟨A1, k1, rfl, -, -⟩ := t1.mk_
                 obtain ⟨A2, k2, rfl, -, -⟩ := t2.mk_
                 have bz := (Box.new w9 39 [.slice none 0 0, .int .i64 0, .int .i64 0]).below hb10
                 replace hb10 := bgo (bgo hb9 (balloc w9 _)) hb10
                 have hz9 := hb9.size
                 obtain ⟨e0, e1, e2, j0, j1, j2⟩ := box3_cells bz)
              | (go_at_call 103; have _q := bz9; (with_reducible refine (hsn.out w9 _ hb9 s9).mono ?_); rintro e w10 ⟨v1, v2, rfl, t1, t2, hb10⟩
                 obtain ⟨A1, k1, rfl, -, -⟩ := t1.mk_
                 obtain ⟨A2, k2, rfl, -, -⟩ := t2.mk_
                 have bz := bz9.below hb10
                 replace hb10 := bgo hb9 hb10
                 have hz9 := Nat.le_refl w8.heap.size
                 obtain ⟨e0, e1, e2, j0, j1, j2⟩ := box3_cells bz)
              | (go_at_call 103; (with_reducible refine (hsn.out w9 _ hb9 s9).mono ?_); rintro e w10 ⟨v1, v2, rfl, t1, t2, hb10⟩
                 obtain ⟨A1, k1, rfl, -, -⟩ := t1.mk_
                 obtain ⟨A2, k2, rfl, -, -⟩ := t2.mk_
                 replace hb10 := bgo hb9 hb10)
              | (go_at_call 132; (with_reducible refine hs1.out.mono ?_); rintro e w9 ⟨v9, rfl, f9, hb9⟩
                 replace hb9 := bgo (bdrew w8) hb9
                 have s9 := f9.sees
                 obtain ⟨A9, k9, rfl, -, -⟩ := f9.sees.mk_)
              | (go_at_call 132; (with_reducible refine hs2.out.mono ?_); rintro e w9 ⟨v9, rfl, f9, hb9⟩
                 have bz9 := ((Box.new w8 39 [.slice none 0 0, .int .i64 0, .int .i64 0]).below (bdrew _)).below hb9
                 replace hb9 := bgo (bgo (balloc w8 _) (bdrew _)) hb9
                 have s9 := f9.sees
                 obtain ⟨A9, k9, rfl, -, -⟩ := f9.sees.mk_))
          all_goals
            go_wp2_with fail
            go_meet
            first
              | (with_reducible exact sgn_new w8 w10 _ _ _ _ _ _ _ _ _ t1 t2 hb10)
              | (with_reducible exact sgn_set w8 w10 _ _ _ _ _ _ _ _ _ _ bz t1 t2 hz9 hb10)
        case rest =>
          obtain ⟨g12, A1, k1, A2, k2, rfl, rfl, rfl, b12, t1, t2, hg12, hb12⟩ := hcut
          obtain ⟨w10, rfl⟩ : ∃ w10 : World, w10 = wc := ⟨_, rfl⟩
          have q11 : g11 < w8.heap.size := x11.lt
          replace h8 := h8.out.below hb12
          replace h9 := h9.out.below hb12
          replace x11 := x11.below hb12
          replace sc5 := seesB_of sc5.out (Nat.le_refl _) hb12
          replace hbw := Lib.hid (bgo hbw.out hb12)
          have hq := q8.out
          have hq' := q9.out
          have n1 : g8 ≠ g11 := by omega
          have n2 : g9 ≠ g11 := by omega
          have n3 : g12 ≠ g11 := by omega
          have n4 : g12 ≠ g8 := by omega
          have n5 : g12 ≠ g9 := by omega
          have hw11 : Hid (w.heap.size ≤ g11) := by have := hg8.out; show _ ≤ _; omega
          replace n1 := Lib.hid n1
          replace n2 := Lib.hid n2
          replace n3 := Lib.hid n3
          replace n4 := Lib.hid n4
          replace n5 := Lib.hid n5
          clear c0 c1 c2 d0 d1 d2 d3 K hs1 hs2 hsn x4 ss5 q11 hq hq'
          by_cases hE : rc = 0
          · subst hE
            have hr2 : Hid (grantR sd h n p f t = ((rs, rh, rn), (p, f, t, rg), 0)) := by show _ = _; rw [hr.out, if_pos rfl]
            have d3 := x11.cell 3
            simp only [List.getElem?_cons_zero, List.getElem?_cons_succ] at d3
            have e3 := x11.frozen 3
            have y11 := x11.set 3 (.slice A2 rg.length k2)
            simp only [List.set_cons_zero, List.set_cons_succ] at y11
            have hgr := setCell_grown w10 g11 3 (.slice A2 rg.length k2)
            have no11 := noBL4 (NoB.s Ac p.length cc) (NoB.i f) (NoB.i t) (NoB.s none 0 0)
            have hz : (w10.setCell ⟨g11, 3, none⟩ (.slice A2 rg.length k2)).heap.size = w10.heap.size := by simp [World.setCell]
            have t1' := t1.over (Nat.le_refl _) x11 no11 hgr
            have t2' := t2.over (Nat.le_refl _) x11 no11 hgr
            have sc' := sc5.over (Nat.le_refl _) x11 no11 hgr
            rw [← hz] at t1' t2' sc'
            have i8 := Lib.hid (h8.other (G := g11) (j := 3) (v := .slice A2 rg.length k2) n1.out)
            have i9 := Lib.hid (h9.other (G := g11) (j := 3) (v := .slice A2 rg.length k2) n2.out)
            have i12 := Lib.hid (b12.other (G := g11) (j := 3) (v := .slice A2 rg.length k2) n3.out)
            have ibw := Lib.hid (hbw.out.setCell (p := ⟨g11, 3, none⟩) hw11.out (.slice A2 rg.length k2))
            replace y11 := Lib.hid y11
            replace t1' := Lib.hid t1'
            replace t2' := Lib.hid t2'
            replace sc' := Lib.hid sc'
            clear h8 h9 b12 t1 t2 sc5 x11 hgr no11 hz hbw hr
            go_wp2_with fail
            clear d3 e3
            generalize w10.setCell ⟨g11, 3, none⟩ (.slice A2 rg.length k2) = W11 at *
            obtain ⟨p8, p9, pb⟩ := set34 i8.out i9.out hne.out (.slice A1 rs.length k1) (.int .i64 rh) (.int .i64 rn) (.slice Ac p.length cc) (.int .i64 f) (.int .i64 t) (.slice A2 rg.length k2)
            obtain ⟨r8, r9, rb⟩ := set43 i8.out i9.out hne.out (.slice A1 rs.length k1) (.int .i64 rh) (.int .i64 rn) (.slice Ac p.length cc) (.int .i64 f) (.int .i64 t) (.slice A2 rg.length k2)
            have n8 := noBL3' (NoB.s none 0 0) (NoB.i 0) (NoB.i 0)
            have n9 := noBL4 (NoB.s none 0 0) (NoB.i 0) (NoB.i 0) (NoB.s none 0 0)
            have pt1 := Lib.hid (sees34 i8.out i9.out n8 n9 hne.out (.slice A1 rs.length k1) (.int .i64 rh) (.int .i64 rn) (.slice Ac p.length cc) (.int .i64 f) (.int .i64 t) (.slice A2 rg.length k2) t1'.out)
            have pt2 := Lib.hid (sees34 i8.out i9.out n8 n9 hne.out (.slice A1 rs.length k1) (.int .i64 rh) (.int .i64 rn) (.slice Ac p.length cc) (.int .i64 f) (.int .i64 t) (.slice A2 rg.length k2) t2'.out)
            have pt3 := Lib.hid (sees34 i8.out i9.out n8 n9 hne.out (.slice A1 rs.length k1) (.int .i64 rh) (.int .i64 rn) (.slice Ac p.length cc) (.int .i64 f) (.int .i64 t) (.slice A2 rg.length k2) sc'.out)
            have rt1 := Lib.hid (sees43 i8.out i9.out n8 n9 hne.out (.slice A1 rs.length k1) (.int .i64 rh) (.int .i64 rn) (.slice Ac p.length cc) (.int .i64 f) (.int .i64 t) (.slice A2 rg.length k2) t1'.out)
            have rt2 := Lib.hid (sees43 i8.out i9.out n8 n9 hne.out (.slice A1 rs.length k1) (.int .i64 rh) (.int .i64 rn) (.slice Ac p.length cc) (.int .i64 f) (.int .i64 t) (.slice A2 rg.length k2) t2'.out)
            have rt3 := Lib.hid (sees43 i8.out i9.out n8 n9 hne.out (.slice A1 rs.length k1) (.int .i64 rh) (.int .i64 rn) (.slice Ac p.length cc) (.int .i64 f) (.int .i64 t) (.slice A2 rg.length k2) sc'.out)
            replace pb := Lib.hid (pb w ibw.out hg8.out hg9.out)
            replace rb := Lib.hid (rb w ibw.out hg8.out hg9.out)
            have a12 : Box (((W11.setCell ⟨g8, 0, none⟩ (.slice A1 rs.length k1)).setCell ⟨g8, 1, none⟩ (.int .i64 rh)).setCell ⟨g8, 2, none⟩ (.int .i64 rn)) g12 39 [.slice A1 rs.length k1, .int .i64 rh, .int .i64 rn] := ((i12.out.other n4.out).other n4.out).other n4.out
            have a11 : Box (((W11.setCell ⟨g8, 0, none⟩ (.slice A1 rs.length k1)).setCell ⟨g8, 1, none⟩ (.int .i64 rh)).setCell ⟨g8, 2, none⟩ (.int .i64 rn)) g11 37 [.slice Ac p.length cc, .int .i64 f, .int .i64 t, .slice A2 rg.length k2] := ((y11.out.other n1.out.symm).other n1.out.symm).other n1.out.symm
            have a9 : Box (((W11.setCell ⟨g8, 0, none⟩ (.slice A1 rs.length k1)).setCell ⟨g8, 1, none⟩ (.int .i64 rh)).setCell ⟨g8, 2, none⟩ (.int .i64 rn)) g9 37 [.slice none 0 0, .int .i64 0, .int .i64 0, .slice none 0 0] := box_off3 i9.out hne.out (.slice A1 rs.length k1) (.int .i64 rh) (.int .i64 rn)
            have b12 : Box ((((W11.setCell ⟨g9, 0, none⟩ (.slice Ac p.length cc)).setCell ⟨g9, 1, none⟩ (.int .i64 f)).setCell ⟨g9, 2, none⟩ (.int .i64 t)).setCell ⟨g9, 3, none⟩ (.slice A2 rg.length k2)) g12 39 [.slice A1 rs.length k1, .int .i64 rh, .int .i64 rn] := (((i12.out.other n5.out).other n5.out).other n5.out).other n5.out
            have b11 : Box ((((W11.setCell ⟨g9, 0, none⟩ (.slice Ac p.length cc)).setCell ⟨g9, 1, none⟩ (.int .i64 f)).setCell ⟨g9, 2, none⟩ (.int .i64 t)).setCell ⟨g9, 3, none⟩ (.slice A2 rg.length k2)) g11 37 [.slice Ac p.length cc, .int .i64 f, .int .i64 t, .slice A2 rg.length k2] := (((y11.out.other n2.out.symm).other n2.out.symm).other n2.out.symm).other n2.out.symm
            have b8 : Box ((((W11.setCell ⟨g9, 0, none⟩ (.slice Ac p.length cc)).setCell ⟨g9, 1, none⟩ (.int .i64 f)).setCell ⟨g9, 2, none⟩ (.int .i64 t)).setCell ⟨g9, 3, none⟩ (.slice A2 rg.length k2)) g8 39 [.slice none 0 0, .int .i64 0, .int .i64 0] := (((i8.out.other hne.out).other hne.out).other hne.out).other hne.out
            have ab12 : Box (((((((W11.setCell ⟨g8, 0, none⟩ (.slice A1 rs.length k1)).setCell ⟨g8, 1, none⟩ (.int .i64 rh)).setCell ⟨g8, 2, none⟩ (.int .i64 rn)).setCell ⟨g9, 0, none⟩ (.slice Ac p.length cc)).setCell ⟨g9, 1, none⟩ (.int .i64 f)).setCell ⟨g9, 2, none⟩ (.int .i64 t)).setCell ⟨g9, 3, none⟩ (.slice A2 rg.length k2)) g12 39 [.slice A1 rs.length k1, .int .i64 rh, .int .i64 rn] := (((a12.other n5.out).other n5.out).other n5.out).other n5.out
            have ab11 : Box (((((((W11.setCell ⟨g8, 0, none⟩ (.slice A1 rs.length k1)).setCell ⟨g8, 1, none⟩ (.int .i64 rh)).setCell ⟨g8, 2, none⟩ (.int .i64 rn)).setCell ⟨g9, 0, none⟩ (.slice Ac p.length cc)).setCell ⟨g9, 1, none⟩ (.int .i64 f)).setCell ⟨g9, 2, none⟩ (.int .i64 t)).setCell ⟨g9, 3, none⟩ (.slice A2 rg.length k2)) g11 37 [.slice Ac p.length cc, .int .i64 f, .int .i64 t, .slice A2 rg.length k2] := (((a11.other n2.out.symm).other n2.out.symm).other n2.out.symm).other n2.out.symm
            have ba12 : Box (((((((W11.setCell ⟨g9, 0, none⟩ (.slice Ac p.length cc)).setCell ⟨g9, 1, none⟩ (.int .i64 f)).setCell ⟨g9, 2, none⟩ (.int .i64 t)).setCell ⟨g9, 3, none⟩ (.slice A2 rg.length k2)).setCell ⟨g8, 0, none⟩ (.slice A1 rs.length k1)).setCell ⟨g8, 1, none⟩ (.int .i64 rh)).setCell ⟨g8, 2, none⟩ (.int .i64 rn)) g12 39 [.slice A1 rs.length k1, .int .i64 rh, .int .i64 rn] := ((b12.other n4.out).other n4.out).other n4.out
            have ba11 : Box (((((((W11.setCell ⟨g9, 0, none⟩ (.slice Ac p.length cc)).setCell ⟨g9, 1, none⟩ (.int .i64 f)).setCell ⟨g9, 2, none⟩ (.int .i64 t)).setCell ⟨g9, 3, none⟩ (.slice A2 rg.length k2)).setCell ⟨g8, 0, none⟩ (.slice A1 rs.length k1)).setCell ⟨g8, 1, none⟩ (.int .i64 rh)).setCell ⟨g8, 2, none⟩ (.int .i64 rn)) g11 37 [.slice Ac p.length cc, .int .i64 f, .int .i64 t, .slice A2 rg.length k2] := ((b11.other n1.out.symm).other n1.out.symm).other n1.out.symm
            have K0 : W11.cell? ⟨g12, 0, none⟩ = some (.slice A1 rs.length k1) ∧ W11.cell? ⟨g12, 1, none⟩ = some (.int .i64 rh) ∧ W11.cell? ⟨g12, 2, none⟩ = some (.int .i64 rn) ∧ W11.cell? ⟨g11, 0, none⟩ = some (.slice Ac p.length cc) ∧ W11.cell? ⟨g11, 1, none⟩ = some (.int .i64 f) ∧ W11.cell? ⟨g11, 2, none⟩ = some (.int .i64 t) ∧ W11.cell? ⟨g11, 3, none⟩ = some (.slice A2 rg.length k2) := ⟨i12.out.cell 0, i12.out.cell 1, i12.out.cell 2, y11.out.cell 0, y11.out.cell 1, y11.out.cell 2, y11.out.cell 3⟩
            have KA : (((W11.setCell ⟨g8, 0, none⟩ (.slice A1 rs.length k1)).setCell ⟨g8, 1, none⟩ (.int .i64 rh)).setCell ⟨g8, 2, none⟩ (.int .i64 rn)).cell? ⟨g12, 0, none⟩ = some (.slice A1 rs.length k1) ∧ (((W11.setCell ⟨g8, 0, none⟩ (.slice A1 rs.length k1)).setCell ⟨g8, 1, none⟩ (.int .i64 rh)).setCell ⟨g8, 2, none⟩ (.int .i64 rn)).cell? ⟨g12, 1, none⟩ = some (.int .i64 rh) ∧ (((W11.setCell ⟨g8, 0, none⟩ (.slice A1 rs.length k1)).setCell ⟨g8, 1, none⟩ (.int .i64 rh)).setCell ⟨g8, 2, none⟩ (.int .i64 rn)).cell? ⟨g12, 2, none⟩ = some (.int .i64 rn) ∧ (((W11.setCell ⟨g8, 0, none⟩ (.slice A1 rs.length k1)).setCell ⟨g8, 1, none⟩ (.int .i64 rh)).setCell ⟨g8, 2, none⟩ (.int .i64 rn)).cell? ⟨g11, 0, none⟩ = some (.slice Ac p.length cc) ∧ (((W11.setCell ⟨g8, 0, none⟩ (.slice A1 rs.length k1)).setCell ⟨g8, 1, none⟩ (.int .i64 rh)).setCell ⟨g8, 2, none⟩ (.int .i64 rn)).cell? ⟨g11, 1, none⟩ = some (.int .i64 f) ∧ (((W11.setCell ⟨g8, 0, none⟩ (.slice A1 rs.length k1)).setCell ⟨g8, 1, none⟩ (.int .i64 rh)).setCell ⟨g8, 2, none⟩ (.int .i64 rn)).cell? ⟨g11, 2, none⟩ = some (.int .i64 t) ∧ (((W11.setCell ⟨g8, 0, none⟩ (.slice A1 rs.length k1)).setCell ⟨g8, 1, none⟩ (.int .i64 rh)).setCell ⟨g8, 2, none⟩ (.int .i64 rn)).cell? ⟨g11, 3, none⟩ = some (.slice A2 rg.length k2) := ⟨a12.cell 0, a12.cell 1, a12.cell 2, a11.cell 0, a11.cell 1, a11.cell 2, a11.cell 3⟩
            have KB : ((((W11.setCell ⟨g9, 0, none⟩ (.slice Ac p.length cc)).setCell ⟨g9, 1, none⟩ (.int .i64 f)).setCell ⟨g9, 2, none⟩ (.int .i64 t)).setCell ⟨g9, 3, none⟩ (.slice A2 rg.length k2)).cell? ⟨g12, 0, none⟩ = some (.slice A1 rs.length k1) ∧ ((((W11.setCell ⟨g9, 0, none⟩ (.slice Ac p.length cc)).setCell ⟨g9, 1, none⟩ (.int .i64 f)).setCell ⟨g9, 2, none⟩ (.int .i64 t)).setCell ⟨g9, 3, none⟩ (.slice A2 rg.length k2)).cell? ⟨g12, 1, none⟩ = some (.int .i64 rh) ∧ ((((W11.setCell ⟨g9, 0, none⟩ (.slice Ac p.length cc)).setCell ⟨g9, 1, none⟩ (.int .i64 f)).setCell ⟨g9, 2, none⟩ (.int .i64 t)).setCell ⟨g9, 3, none⟩ (.slice A2 rg.length k2)).cell? ⟨g12, 2, none⟩ = some (.int .i64 rn) ∧ ((((W11.setCell ⟨g9, 0, none⟩ (.slice Ac p.length cc)).setCell ⟨g9, 1, none⟩ (.int .i64 f)).setCell ⟨g9, 2, none⟩ (.int .i64 t)).setCell ⟨g9, 3, none⟩ (.slice A2 rg.length k2)).cell? ⟨g11, 0, none⟩ = some (.slice Ac p.length cc) ∧ ((((W11.setCell ⟨g9, 0, none⟩ (.slice Ac p.length cc)).setCell ⟨g9, 1, none⟩ (.int .i64 f)).setCell ⟨g9, 2, none⟩ (.int .i64 t)).setCell ⟨g9, 3, none⟩ (.slice A2 rg.length k2)).cell? ⟨g11, 1, none⟩ = some (.int .i64 f) ∧ ((((W11.setCell ⟨g9, 0, none⟩ (.slice Ac p.length cc)).setCell ⟨g9, 1, none⟩ (.int .i64 f)).setCell ⟨g9, 2, none⟩ (.int .i64 t)).setCell ⟨g9, 3, none⟩ (.slice A2 rg.length k2)).cell? ⟨g11, 2, none⟩ = some (.int .i64 t) ∧ ((((W11.setCell ⟨g9, 0, none⟩ (.slice Ac p.length cc)).setCell ⟨g9, 1, none⟩ (.int .i64 f)).setCell ⟨g9, 2, none⟩ (.int .i64 t)).setCell ⟨g9, 3, none⟩ (.slice A2 rg.length k2)).cell? ⟨g11, 3, none⟩ = some (.slice A2 rg.length k2) := ⟨b12.cell 0, b12.cell 1, b12.cell 2, b11.cell 0, b11.cell 1, b11.cell 2, b11.cell 3⟩
            have KAB : (((((((W11.setCell ⟨g8, 0, none⟩ (.slice A1 rs.length k1)).setCell ⟨g8, 1, none⟩ (.int .i64 rh)).setCell ⟨g8, 2, none⟩ (.int .i64 rn)).setCell ⟨g9, 0, none⟩ (.slice Ac p.length cc)).setCell ⟨g9, 1, none⟩ (.int .i64 f)).setCell ⟨g9, 2, none⟩ (.int .i64 t)).setCell ⟨g9, 3, none⟩ (.slice A2 rg.length k2)).cell? ⟨g12, 0, none⟩ = some (.slice A1 rs.length k1) ∧ (((((((W11.setCell ⟨g8, 0, none⟩ (.slice A1 rs.length k1)).setCell ⟨g8, 1, none⟩ (.int .i64 rh)).setCell ⟨g8, 2, none⟩ (.int .i64 rn)).setCell ⟨g9, 0, none⟩ (.slice Ac p.length cc)).setCell ⟨g9, 1, none⟩ (.int .i64 f)).setCell ⟨g9, 2, none⟩ (.int .i64 t)).setCell ⟨g9, 3, none⟩ (.slice A2 rg.length k2)).cell? ⟨g12, 1, none⟩ = some (.int .i64 rh) ∧ (((((((W11.setCell ⟨g8, 0, none⟩ (.slice A1 rs.length k1)).setCell ⟨g8, 1, none⟩ (.int .i64 rh)).setCell ⟨g8, 2, none⟩ (.int .i64 rn)).setCell ⟨g9, 0, none⟩ (.slice Ac p.length cc)).setCell ⟨g9, 1, none⟩ (.int .i64 f)).setCell ⟨g9, 2, none⟩ (.int .i64 t)).setCell ⟨g9, 3, none⟩ (.slice A2 rg.length k2)).cell? ⟨g12, 2, none⟩ = some (.int .i64 rn) ∧ (((((((W11.setCell ⟨g8, 0, none⟩ (.slice A1 rs.length k1)).setCell ⟨g8, 1, none⟩ (.int .i64 rh)).setCell ⟨g8, 2, none⟩ (.int .i64 rn)).setCell ⟨g9, 0, none⟩ (.slice Ac p.length cc)).setCell ⟨g9, 1, none⟩ (.int .i64 f)).setCell ⟨g9, 2, none⟩ (.int .i64 t)).setCell ⟨g9, 3, none⟩ (.slice A2 rg.length k2)).cell? ⟨g11, 0, none⟩ = some (.slice Ac p.length cc) ∧ (((((((W11.setCell ⟨g8, 0, none⟩ (.slice A1 rs.length k1)).setCell ⟨g8, 1, none⟩ (.int .i64 rh)).setCell ⟨g8, 2, none⟩ (.int .i64 rn)).setCell ⟨g9, 0, none⟩ (.slice Ac p.length cc)).setCell ⟨g9, 1, none⟩ (.int .i64 f)).setCell ⟨g9, 2, none⟩ (.int .i64 t)).setCell ⟨g9, 3, none⟩ (.slice A2 rg.length k2)).cell? ⟨g11, 1, none⟩ = some (.int .i64 f) ∧ (((((((W11.setCell ⟨g8, 0, none⟩ (.slice A1 rs.length k1)).setCell ⟨g8, 1, none⟩ (.int .i64 rh)).setCell ⟨g8, 2, none⟩ (.int .i64 rn)).setCell ⟨g9, 0, none⟩ (.slice Ac p.length cc)).setCell ⟨g9, 1, none⟩ (.int .i64 f)).setCell ⟨g9, 2, none⟩ (.int .i64 t)).setCell ⟨g9, 3, none⟩ (.slice A2 rg.length k2)).cell? ⟨g11, 2, none⟩ = some (.int .i64 t) ∧ (((((((W11.setCell ⟨g8, 0, none⟩ (.slice A1 rs.length k1)).setCell ⟨g8, 1, none⟩ (.int .i64 rh)).setCell ⟨g8, 2, none⟩ (.int .i64 rn)).setCell ⟨g9, 0, none⟩ (.slice Ac p.length cc)).setCell ⟨g9, 1, none⟩ (.int .i64 f)).setCell ⟨g9, 2, none⟩ (.int .i64 t)).setCell ⟨g9, 3, none⟩ (.slice A2 rg.length k2)).cell? ⟨g11, 3, none⟩ = some (.slice A2 rg.length k2) := ⟨ab12.cell 0, ab12.cell 1, ab12.cell 2, ab11.cell 0, ab11.cell 1, ab11.cell 2, ab11.cell 3⟩
            have KBA : (((((((W11.setCell ⟨g9, 0, none⟩ (.slice Ac p.length cc)).setCell ⟨g9, 1, none⟩ (.int .i64 f)).setCell ⟨g9, 2, none⟩ (.int .i64 t)).setCell ⟨g9, 3, none⟩ (.slice A2 rg.length k2)).setCell ⟨g8, 0, none⟩ (.slice A1 rs.length k1)).setCell ⟨g8, 1, none⟩ (.int .i64 rh)).setCell ⟨g8, 2, none⟩ (.int .i64 rn)).cell? ⟨g12, 0, none⟩ = some (.slice A1 rs.length k1) ∧ (((((((W11.setCell ⟨g9, 0, none⟩ (.slice Ac p.length cc)).setCell ⟨g9, 1, none⟩ (.int .i64 f)).setCell ⟨g9, 2, none⟩ (.int .i64 t)).setCell ⟨g9, 3, none⟩ (.slice A2 rg.length k2)).setCell ⟨g8, 0, none⟩ (.slice A1 rs.length k1)).setCell ⟨g8, 1, none⟩ (.int .i64 rh)).setCell ⟨g8, 2, none⟩ (.int .i64 rn)).cell? ⟨g12, 1, none⟩ = some (.int .i64 rh) ∧ (((((((W11.setCell ⟨g9, 0, none⟩ (.slice Ac p.length cc)).setCell ⟨g9, 1, none⟩ (.int .i64 f)).setCell ⟨g9, 2, none⟩ (.int .i64 t)).setCell ⟨g9, 3, none⟩ (.slice A2 rg.length k2)).setCell ⟨g8, 0, none⟩ (.slice A1 rs.length k1)).setCell ⟨g8, 1, none⟩ (.int .i64 rh)).setCell ⟨g8, 2, none⟩ (.int .i64 rn)).cell? ⟨g12, 2, none⟩ = some (.int .i64 rn) ∧ (((((((W11.setCell ⟨g9, 0, none⟩ (.slice Ac p.length cc)).setCell ⟨g9, 1, none⟩ (.int .i64 f)).setCell ⟨g9, 2, none⟩ (.int .i64 t)).setCell ⟨g9, 3, none⟩ (.slice A2 rg.length k2)).setCell ⟨g8, 0, none⟩ (.slice A1 rs.length k1)).setCell ⟨g8, 1, none⟩ (.int .i64 rh)).setCell ⟨g8, 2, none⟩ (.int .i64 rn)).cell? ⟨g11, 0, none⟩ = some (.slice Ac p.length cc) ∧ (((((((W11.setCell ⟨g9, 0, none⟩ (.slice Ac p.length cc)).setCell ⟨g9, 1, none⟩ (.int .i64 f)).setCell ⟨g9, 2, none⟩ (.int .i64 t)).setCell ⟨g9, 3, none⟩ (.slice A2 rg.length k2)).setCell ⟨g8, 0, none⟩ (.slice A1 rs.length k1)).setCell ⟨g8, 1, none⟩ (.int .i64 rh)).setCell ⟨g8, 2, none⟩ (.int .i64 rn)).cell? ⟨g11, 1, none⟩ = some (.int .i64 f) ∧ (((((((W11.setCell ⟨g9, 0, none⟩ (.slice Ac p.length cc)).setCell ⟨g9, 1, none⟩ (.int .i64 f)).setCell ⟨g9, 2, none⟩ (.int .i64 t)).setCell ⟨g9, 3, none⟩ (.slice A2 rg.length k2)).setCell ⟨g8, 0, none⟩ (.slice A1 rs.length k1)).setCell ⟨g8, 1, none⟩ (.int .i64 rh)).setCell ⟨g8, 2, none⟩ (.int .i64 rn)).cell? ⟨g11, 2, none⟩ = some (.int .i64 t) ∧ (((((((W11.setCell ⟨g9, 0, none⟩ (.slice Ac p.length cc)).setCell ⟨g9, 1, none⟩ (.int .i64 f)).setCell ⟨g9, 2, none⟩ (.int .i64 t)).setCell ⟨g9, 3, none⟩ (.slice A2 rg.length k2)).setCell ⟨g8, 0, none⟩ (.slice A1 rs.length k1)).setCell ⟨g8, 1, none⟩ (.int .i64 rh)).setCell ⟨g8, 2, none⟩ (.int .i64 rn)).cell? ⟨g11, 3, none⟩ = some (.slice A2 rg.length k2) := ⟨ba12.cell 0, ba12.cell 1, ba12.cell 2, ba11.cell 0, ba11.cell 1, ba11.cell 2, ba11.cell 3⟩
            have K0d : W11.drew.cell? ⟨g12, 0, none⟩ = some (.slice A1 rs.length k1) ∧ W11.drew.cell? ⟨g12, 1, none⟩ = some (.int .i64 rh) ∧ W11.drew.cell? ⟨g12, 2, none⟩ = some (.int .i64 rn) ∧ W11.drew.cell? ⟨g11, 0, none⟩ = some (.slice Ac p.length cc) ∧ W11.drew.cell? ⟨g11, 1, none⟩ = some (.int .i64 f) ∧ W11.drew.cell? ⟨g11, 2, none⟩ = some (.int .i64 t) ∧ W11.drew.cell? ⟨g11, 3, none⟩ = some (.slice A2 rg.length k2) := seven_drew K0
            have KAd : (((W11.setCell ⟨g8, 0, none⟩ (.slice A1 rs.length k1)).setCell ⟨g8, 1, none⟩ (.int .i64 rh)).setCell ⟨g8, 2, none⟩ (.int .i64 rn)).drew.cell? ⟨g12, 0, none⟩ = some (.slice A1 rs.length k1) ∧ (((W11.setCell ⟨g8, 0, none⟩ (.slice A1 rs.length k1)).setCell ⟨g8, 1, none⟩ (.int .i64 rh)).setCell ⟨g8, 2, none⟩ (.int .i64 rn)).drew.cell? ⟨g12, 1, none⟩ = some (.int .i64 rh) ∧ (((W11.setCell ⟨g8, 0, none⟩ (.slice A1 rs.length k1)).setCell ⟨g8, 1, none⟩ (.int .i64 rh)).setCell ⟨g8, 2, none⟩ (.int .i64 rn)).drew.cell? ⟨g12, 2, none⟩ = some (.int .i64 rn) ∧ (((W11.setCell ⟨g8, 0, none⟩ (.slice A1 rs.length k1)).setCell ⟨g8, 1, none⟩ (.int .i64 rh)).setCell ⟨g8, 2, none⟩ (.int .i64 rn)).drew.cell? ⟨g11, 0, none⟩ = some (.slice Ac p.length cc) ∧ (((W11.setCell ⟨g8, 0, none⟩ (.slice A1 rs.length k1)).setCell ⟨g8, 1, none⟩ (.int .i64 rh)).setCell ⟨g8, 2, none⟩ (.int .i64 rn)).drew.cell? ⟨g11, 1, none⟩ = some (.int .i64 f) ∧ (((W11.setCell ⟨g8, 0, none⟩ (.slice A1 rs.length k1)).setCell ⟨g8, 1, none⟩ (.int .i64 rh)).setCell ⟨g8, 2, none⟩ (.int .i64 rn)).drew.cell? ⟨g11, 2, none⟩ = some (.int .i64 t) ∧ (((W11.setCell ⟨g8, 0, none⟩ (.slice A1 rs.length k1)).setCell ⟨g8, 1, none⟩ (.int .i64 rh)).setCell ⟨g8, 2, none⟩ (.int .i64 rn)).drew.cell? ⟨g11, 3, none⟩ = some (.slice A2 rg.length k2) := seven_drew KA
            have KBd : ((((W11.setCell ⟨g9, 0, none⟩ (.slice Ac p.length cc)).setCell ⟨g9, 1, none⟩ (.int .i64 f)).setCell ⟨g9, 2, none⟩ (.int .i64 t)).setCell ⟨g9, 3, none⟩ (.slice A2 rg.length k2)).drew.cell? ⟨g12, 0, none⟩ = some (.slice A1 rs.length k1) ∧ ((((W11.setCell ⟨g9, 0, none⟩ (.slice Ac p.length cc)).setCell ⟨g9, 1, none⟩ (.int .i64 f)).setCell ⟨g9, 2, none⟩ (.int .i64 t)).setCell ⟨g9, 3, none⟩ (.slice A2 rg.length k2)).drew.cell? ⟨g12, 1, none⟩ = some (.int .i64 rh) ∧ ((((W11.setCell ⟨g9, 0, none⟩ (.slice Ac p.length cc)).setCell ⟨g9, 1, none⟩ (.int .i64 f)).setCell ⟨g9, 2, none⟩ (.int .i64 t)).setCell ⟨g9, 3, none⟩ (.slice A2 rg.length k2)).drew.cell? ⟨g12, 2, none⟩ = some (.int .i64 rn) ∧ ((((W11.setCell ⟨g9, 0, none⟩ (.slice Ac p.length cc)).setCell ⟨g9, 1, none⟩ (.int .i64 f)).setCell ⟨g9, 2, none⟩ (.int .i64 t)).setCell ⟨g9, 3, none⟩ (.slice A2 rg.length k2)).drew.cell? ⟨g11, 0, none⟩ = some (.slice Ac p.length cc) ∧ ((((W11.setCell ⟨g9, 0, none⟩ (.slice Ac p.length cc)).setCell ⟨g9, 1, none⟩ (.int .i64 f)).setCell ⟨g9, 2, none⟩ (.int .i64 t)).setCell ⟨g9, 3, none⟩ (.slice A2 rg.length k2)).drew.cell? ⟨g11, 1, none⟩ = some (.int .i64 f) ∧ ((((W11.setCell ⟨g9, 0, none⟩ (.slice Ac p.length cc)).setCell ⟨g9, 1, none⟩ (.int .i64 f)).setCell ⟨g9, 2, none⟩ (.int .i64 t)).setCell ⟨g9, 3, none⟩ (.slice A2 rg.length k2)).drew.cell? ⟨g11, 2, none⟩ = some (.int .i64 t) ∧ ((((W11.setCell ⟨g9, 0, none⟩ (.slice Ac p.length cc)).setCell ⟨g9, 1, none⟩ (.int .i64 f)).setCell ⟨g9, 2, none⟩ (.int .i64 t)).setCell ⟨g9, 3, none⟩ (.slice A2 rg.length k2)).drew.cell? ⟨g11, 3, none⟩ = some (.slice A2 rg.length k2) := seven_drew KB
            have KABd : (((((((W11.setCell ⟨g8, 0, none⟩ (.slice A1 rs.length k1)).setCell ⟨g8, 1, none⟩ (.int .i64 rh)).setCell ⟨g8, 2, none⟩ (.int .i64 rn)).setCell ⟨g9, 0, none⟩ (.slice Ac p.length cc)).setCell ⟨g9, 1, none⟩ (.int .i64 f)).setCell ⟨g9, 2, none⟩ (.int .i64 t)).setCell ⟨g9, 3, none⟩ (.slice A2 rg.length k2)).drew.cell? ⟨g12, 0, none⟩ = some (.slice A1 rs.length k1) ∧ (((((((W11.setCell ⟨g8, 0, none⟩ (.slice A1 rs.length k1)).setCell ⟨g8, 1, none⟩ (.int .i64 rh)).setCell ⟨g8, 2, none⟩ (.int .i64 rn)).setCell ⟨g9, 0, none⟩ (.slice Ac p.length cc)).setCell ⟨g9, 1, none⟩ (.int .i64 f)).setCell ⟨g9, 2, none⟩ (.int .i64 t)).setCell ⟨g9, 3, none⟩ (.slice A2 rg.length k2)).drew.cell? ⟨g12, 1, none⟩ = some (.int .i64 rh) ∧ (((((((W11.setCell ⟨g8, 0, none⟩ (.slice A1 rs.length k1)).setCell ⟨g8, 1, none⟩ (.int .i64 rh)).setCell ⟨g8, 2, none⟩ (.int .i64 rn)).setCell ⟨g9, 0, none⟩ (.slice Ac p.length cc)).setCell ⟨g9, 1, none⟩ (.int .i64 f)).setCell ⟨g9, 2, none⟩ (.int .i64 t)).setCell ⟨g9, 3, none⟩ (.slice A2 rg.length k2)).drew.cell? ⟨g12, 2, none⟩ = some (.int .i64 rn) ∧ (((((((W11.setCell ⟨g8, 0, none⟩ (.slice A1 rs.length k1)).setCell ⟨g8, 1, none⟩ (.int .i64 rh)).setCell ⟨g8, 2, none⟩ (.int .i64 rn)).setCell ⟨g9, 0, none⟩ (.slice Ac p.length cc)).setCell ⟨g9, 1, none⟩ (.int .i64 f)).setCell ⟨g9, 2, none⟩ (.int .i64 t)).setCell ⟨g9, 3, none⟩ (.slice A2 rg.length k2)).drew.cell? ⟨g11, 0, none⟩ = some (.slice Ac p.length cc) ∧ (((((((W11.setCell ⟨g8, 0, none⟩ (.slice A1 rs.length k1)).setCell ⟨g8, 1, none⟩ (.int .i64 rh)).setCell ⟨g8, 2, none⟩ (.int .i64 rn)).setCell ⟨g9, 0, none⟩ (.slice Ac p.length cc)).setCell ⟨g9, 1, none⟩ (.int .i64 f)).setCell ⟨g9, 2, none⟩ (.int .i64 t)).setCell ⟨g9, 3, none⟩ (.slice A2 rg.length k2)).drew.cell? ⟨g11, 1, none⟩ = some (.int .i64 f) ∧ (((((((W11.setCell ⟨g8, 0, none⟩ (.slice A1 rs.length k1)).setCell ⟨g8, 1, none⟩ (.int .i64 rh)).setCell ⟨g8, 2, none⟩ (.int .i64 rn)).setCell ⟨g9, 0, none⟩ (.slice Ac p.length cc)).setCell ⟨g9, 1, none⟩ (.int .i64 f)).setCell ⟨g9, 2, none⟩ (.int .i64 t)).setCell ⟨g9, 3, none⟩ (.slice A2 rg.length k2)).drew.cell? ⟨g11, 2, none⟩ = some (.int .i64 t) ∧ (((((((W11.setCell ⟨g8, 0, none⟩ (.slice A1 rs.length k1)).setCell ⟨g8, 1, none⟩ (.int .i64 rh)).setCell ⟨g8, 2, none⟩ (.int .i64 rn)).setCell ⟨g9, 0, none⟩ (.slice Ac p.length cc)).setCell ⟨g9, 1, none⟩ (.int .i64 f)).setCell ⟨g9, 2, none⟩ (.int .i64 t)).setCell ⟨g9, 3, none⟩ (.slice A2 rg.length k2)).drew.cell? ⟨g11, 3, none⟩ = some (.slice A2 rg.length k2) := seven_drew KAB
            have KBAd : (((((((W11.setCell ⟨g9, 0, none⟩ (.slice Ac p.length cc)).setCell ⟨g9, 1, none⟩ (.int .i64 f)).setCell ⟨g9, 2, none⟩ (.int .i64 t)).setCell ⟨g9, 3, none⟩ (.slice A2 rg.length k2)).setCell ⟨g8, 0, none⟩ (.slice A1 rs.length k1)).setCell ⟨g8, 1, none⟩ (.int .i64 rh)).setCell ⟨g8, 2, none⟩ (.int .i64 rn)).drew.cell? ⟨g12, 0, none⟩ = some (.slice A1 rs.length k1) ∧ (((((((W11.setCell ⟨g9, 0, none⟩ (.slice Ac p.length cc)).setCell ⟨g9, 1, none⟩ (.int .i64 f)).setCell ⟨g9, 2, none⟩ (.int .i64 t)).setCell ⟨g9, 3, none⟩ (.slice A2 rg.length k2)).setCell ⟨g8, 0, none⟩ (.slice A1 rs.length k1)).setCell ⟨g8, 1, none⟩ (.int .i64 rh)).setCell ⟨g8, 2, none⟩ (.int .i64 rn)).drew.cell? ⟨g12, 1, none⟩ = some (.int .i64 rh) ∧ (((((((W11.setCell ⟨g9, 0, none⟩ (.slice Ac p.length cc)).setCell ⟨g9, 1, none⟩ (.int .i64 f)).setCell ⟨g9, 2, none⟩ (.int .i64 t)).setCell ⟨g9, 3, none⟩ (.slice A2 rg.length k2)).setCell ⟨g8, 0, none⟩ (.slice A1 rs.length k1)).setCell ⟨g8, 1, none⟩ (.int .i64 rh)).setCell ⟨g8, 2, none⟩ (.int .i64 rn)).drew.cell? ⟨g12, 2, none⟩ = some (.int .i64 rn) ∧ (((((((W11.setCell ⟨g9, 0, none⟩ (.slice Ac p.length cc)).setCell ⟨g9, 1, none⟩ (.int .i64 f)).setCell ⟨g9, 2, none⟩ (.int .i64 t)).setCell ⟨g9, 3, none⟩ (.slice A2 rg.length k2)).setCell ⟨g8, 0, none⟩ (.slice A1 rs.length k1)).setCell ⟨g8, 1, none⟩ (.int .i64 rh)).setCell ⟨g8, 2, none⟩ (.int .i64 rn)).drew.cell? ⟨g11, 0, none⟩ = some (.slice Ac p.length cc) ∧ (((((((W11.setCell ⟨g9, 0, none⟩ (.slice Ac p.length cc)).setCell ⟨g9, 1, none⟩ (.int .i64 f)).setCell ⟨g9, 2, none⟩ (.int .i64 t)).setCell ⟨g9, 3, none⟩ (.slice A2 rg.length k2)).setCell ⟨g8, 0, none⟩ (.slice A1 rs.length k1)).setCell ⟨g8, 1, none⟩ (.int .i64 rh)).setCell ⟨g8, 2, none⟩ (.int .i64 rn)).drew.cell? ⟨g11, 1, none⟩ = some (.int .i64 f) ∧ (((((((W11.setCell ⟨g9, 0, none⟩ (.slice Ac p.length cc)).setCell ⟨g9, 1, none⟩ (.int .i64 f)).setCell ⟨g9, 2, none⟩ (.int .i64 t)).setCell ⟨g9, 3, none⟩ (.slice A2 rg.length k2)).setCell ⟨g8, 0, none⟩ (.slice A1 rs.length k1)).setCell ⟨g8, 1, none⟩ (.int .i64 rh)).setCell ⟨g8, 2, none⟩ (.int .i64 rn)).drew.cell? ⟨g11, 2, none⟩ = some (.int .i64 t) ∧ (((((((W11.setCell ⟨g9, 0, none⟩ (.slice Ac p.length cc)).setCell ⟨g9, 1, none⟩ (.int .i64 f)).setCell ⟨g9, 2, none⟩ (.int .i64 t)).setCell ⟨g9, 3, none⟩ (.slice A2 rg.length k2)).setCell ⟨g8, 0, none⟩ (.slice A1 rs.length k1)).setCell ⟨g8, 1, none⟩ (.int .i64 rh)).setCell ⟨g8, 2, none⟩ (.int .i64 rn)).drew.cell? ⟨g11, 3, none⟩ = some (.slice A2 rg.length k2) := seven_drew KBA
            replace K0d := Lib.hid K0d
            replace KAd := Lib.hid KAd
            replace KBd := Lib.hid KBd
            replace KABd := Lib.hid KABd
            replace KBAd := Lib.hid KBAd
            obtain ⟨o0, o1, o2, o3, o4, o5⟩ := box3_cells i8.out
            obtain ⟨o6, o7, o8, o9, o10, o11, o12, o13⟩ := box4_cells i9.out
            obtain ⟨s0, s1, s2, s3, s4, s5⟩ := box3_cells b8
            obtain ⟨s6, s7, s8, s9, s10, s11, s12, s13⟩ := box4_cells a9
            have z0 : (((((((W11.setCell ⟨g8, 0, none⟩ (.slice A1 rs.length k1)).setCell ⟨g8, 1, none⟩ (.int .i64 rh)).setCell ⟨g8, 2, none⟩ (.int .i64 rn)).setCell ⟨g9, 0, none⟩ (.slice Ac p.length cc)).setCell ⟨g9, 1, none⟩ (.int .i64 f)).setCell ⟨g9, 2, none⟩ (.int .i64 t)).setCell ⟨g9, 3, none⟩ (.slice A2 rg.length k2)).cell? ⟨g8, 0, none⟩ = some (.slice A1 rs.length k1) := p8.cell 0
            have z1 : (((((((W11.setCell ⟨g8, 0, none⟩ (.slice A1 rs.length k1)).setCell ⟨g8, 1, none⟩ (.int .i64 rh)).setCell ⟨g8, 2, none⟩ (.int .i64 rn)).setCell ⟨g9, 0, none⟩ (.slice Ac p.length cc)).setCell ⟨g9, 1, none⟩ (.int .i64 f)).setCell ⟨g9, 2, none⟩ (.int .i64 t)).setCell ⟨g9, 3, none⟩ (.slice A2 rg.length k2)).cell? ⟨g8, 1, none⟩ = some (.int .i64 rh) := p8.cell 1
            have z2 : (((((((W11.setCell ⟨g8, 0, none⟩ (.slice A1 rs.length k1)).setCell ⟨g8, 1, none⟩ (.int .i64 rh)).setCell ⟨g8, 2, none⟩ (.int .i64 rn)).setCell ⟨g9, 0, none⟩ (.slice Ac p.length cc)).setCell ⟨g9, 1, none⟩ (.int .i64 f)).setCell ⟨g9, 2, none⟩ (.int .i64 t)).setCell ⟨g9, 3, none⟩ (.slice A2 rg.length k2)).cell? ⟨g8, 2, none⟩ = some (.int .i64 rn) := p8.cell 2
            have z3 : (((((((W11.setCell ⟨g8, 0, none⟩ (.slice A1 rs.length k1)).setCell ⟨g8, 1, none⟩ (.int .i64 rh)).setCell ⟨g8, 2, none⟩ (.int .i64 rn)).setCell ⟨g9, 0, none⟩ (.slice Ac p.length cc)).setCell ⟨g9, 1, none⟩ (.int .i64 f)).setCell ⟨g9, 2, none⟩ (.int .i64 t)).setCell ⟨g9, 3, none⟩ (.slice A2 rg.length k2)).cell? ⟨g9, 0, none⟩ = some (.slice Ac p.length cc) := p9.cell 0
            have z4 : (((((((W11.setCell ⟨g8, 0, none⟩ (.slice A1 rs.length k1)).setCell ⟨g8, 1, none⟩ (.int .i64 rh)).setCell ⟨g8, 2, none⟩ (.int .i64 rn)).setCell ⟨g9, 0, none⟩ (.slice Ac p.length cc)).setCell ⟨g9, 1, none⟩ (.int .i64 f)).setCell ⟨g9, 2, none⟩ (.int .i64 t)).setCell ⟨g9, 3, none⟩ (.slice A2 rg.length k2)).cell? ⟨g9, 1, none⟩ = some (.int .i64 f) := p9.cell 1
            have z5 : (((((((W11.setCell ⟨g8, 0, none⟩ (.slice A1 rs.length k1)).setCell ⟨g8, 1, none⟩ (.int .i64 rh)).setCell ⟨g8, 2, none⟩ (.int .i64 rn)).setCell ⟨g9, 0, none⟩ (.slice Ac p.length cc)).setCell ⟨g9, 1, none⟩ (.int .i64 f)).setCell ⟨g9, 2, none⟩ (.int .i64 t)).setCell ⟨g9, 3, none⟩ (.slice A2 rg.length k2)).cell? ⟨g9, 2, none⟩ = some (.int .i64 t) := p9.cell 2
            have z6 : (((((((W11.setCell ⟨g8, 0, none⟩ (.slice A1 rs.length k1)).setCell ⟨g8, 1, none⟩ (.int .i64 rh)).setCell ⟨g8, 2, none⟩ (.int .i64 rn)).setCell ⟨g9, 0, none⟩ (.slice Ac p.length cc)).setCell ⟨g9, 1, none⟩ (.int .i64 f)).setCell ⟨g9, 2, none⟩ (.int .i64 t)).setCell ⟨g9, 3, none⟩ (.slice A2 rg.length k2)).cell? ⟨g9, 3, none⟩ = some (.slice A2 rg.length k2) := p9.cell 3
            have m0 : (((((((W11.setCell ⟨g9, 0, none⟩ (.slice Ac p.length cc)).setCell ⟨g9, 1, none⟩ (.int .i64 f)).setCell ⟨g9, 2, none⟩ (.int .i64 t)).setCell ⟨g9, 3, none⟩ (.slice A2 rg.length k2)).setCell ⟨g8, 0, none⟩ (.slice A1 rs.length k1)).setCell ⟨g8, 1, none⟩ (.int .i64 rh)).setCell ⟨g8, 2, none⟩ (.int .i64 rn)).cell? ⟨g8, 0, none⟩ = some (.slice A1 rs.length k1) := r8.cell 0
            have m1 : (((((((W11.setCell ⟨g9, 0, none⟩ (.slice Ac p.length cc)).setCell ⟨g9, 1, none⟩ (.int .i64 f)).setCell ⟨g9, 2, none⟩ (.int .i64 t)).setCell ⟨g9, 3, none⟩ (.slice A2 rg.length k2)).setCell ⟨g8, 0, none⟩ (.slice A1 rs.length k1)).setCell ⟨g8, 1, none⟩ (.int .i64 rh)).setCell ⟨g8, 2, none⟩ (.int .i64 rn)).cell? ⟨g8, 1, none⟩ = some (.int .i64 rh) := r8.cell 1
            have m2 : (((((((W11.setCell ⟨g9, 0, none⟩ (.slice Ac p.length cc)).setCell ⟨g9, 1, none⟩ (.int .i64 f)).setCell ⟨g9, 2, none⟩ (.int .i64 t)).setCell ⟨g9, 3, none⟩ (.slice A2 rg.length k2)).setCell ⟨g8, 0, none⟩ (.slice A1 rs.length k1)).setCell ⟨g8, 1, none⟩ (.int .i64 rh)).setCell ⟨g8, 2, none⟩ (.int .i64 rn)).cell? ⟨g8, 2, none⟩ = some (.int .i64 rn) := r8.cell 2
            have m3 : (((((((W11.setCell ⟨g9, 0, none⟩ (.slice Ac p.length cc)).setCell ⟨g9, 1, none⟩ (.int .i64 f)).setCell ⟨g9, 2, none⟩ (.int .i64 t)).setCell ⟨g9, 3, none⟩ (.slice A2 rg.length k2)).setCell ⟨g8, 0, none⟩ (.slice A1 rs.length k1)).setCell ⟨g8, 1, none⟩ (.int .i64 rh)).setCell ⟨g8, 2, none⟩ (.int .i64 rn)).cell? ⟨g9, 0, none⟩ = some (.slice Ac p.length cc) := r9.cell 0
            have m4 : (((((((W11.setCell ⟨g9, 0, none⟩ (.slice Ac p.length cc)).setCell ⟨g9, 1, none⟩ (.int .i64 f)).setCell ⟨g9, 2, none⟩ (.int .i64 t)).setCell ⟨g9, 3, none⟩ (.slice A2 rg.length k2)).setCell ⟨g8, 0, none⟩ (.slice A1 rs.length k1)).setCell ⟨g8, 1, none⟩ (.int .i64 rh)).setCell ⟨g8, 2, none⟩ (.int .i64 rn)).cell? ⟨g9, 1, none⟩ = some (.int .i64 f) := r9.cell 1
            have m5 : (((((((W11.setCell ⟨g9, 0, none⟩ (.slice Ac p.length cc)).setCell ⟨g9, 1, none⟩ (.int .i64 f)).setCell ⟨g9, 2, none⟩ (.int .i64 t)).setCell ⟨g9, 3, none⟩ (.slice A2 rg.length k2)).setCell ⟨g8, 0, none⟩ (.slice A1 rs.length k1)).setCell ⟨g8, 1, none⟩ (.int .i64 rh)).setCell ⟨g8, 2, none⟩ (.int .i64 rn)).cell? ⟨g9, 2, none⟩ = some (.int .i64 t) := r9.cell 2
            have m6 : (((((((W11.setCell ⟨g9, 0, none⟩ (.slice Ac p.length cc)).setCell ⟨g9, 1, none⟩ (.int .i64 f)).setCell ⟨g9, 2, none⟩ (.int .i64 t)).setCell ⟨g9, 3, none⟩ (.slice A2 rg.length k2)).setCell ⟨g8, 0, none⟩ (.slice A1 rs.length k1)).setCell ⟨g8, 1, none⟩ (.int .i64 rh)).setCell ⟨g8, 2, none⟩ (.int .i64 rn)).cell? ⟨g9, 3, none⟩ = some (.slice A2 rg.length k2) := r9.cell 3
            replace z0 := Lib.hid z0
            replace z1 := Lib.hid z1
            replace z2 := Lib.hid z2
            replace z3 := Lib.hid z3
            replace z4 := Lib.hid z4
            replace z5 := Lib.hid z5
            replace z6 := Lib.hid z6
            replace m0 := Lib.hid m0
            replace m1 := Lib.hid m1
            replace m2 := Lib.hid m2
            replace m3 := Lib.hid m3
            replace m4 := Lib.hid m4
            replace m5 := Lib.hid m5
            replace m6 := Lib.hid m6
            replace KA := Lib.hid KA
            replace KB := Lib.hid KB
            replace KAB := Lib.hid KAB
            replace KBA := Lib.hid KBA
            clear p8 p9 r8 r9 a12 a11 a9 b12 b11 b8 ab12 ab11 ba12 ba11 n8 n9 i8 i9 i12 y11
            go_region_held3 (fun W' : World => W'.cell? ⟨g12, 0, none⟩ = some (.slice A1 rs.length k1) ∧ W'.cell? ⟨g12, 1, none⟩ = some (.int .i64 rh) ∧ W'.cell? ⟨g12, 2, none⟩ = some (.int .i64 rn) ∧ W'.cell? ⟨g11, 0, none⟩ = some (.slice Ac p.length cc) ∧ W'.cell? ⟨g11, 1, none⟩ = some (.int .i64 f) ∧ W'.cell? ⟨g11, 2, none⟩ = some (.int .i64 t) ∧ W'.cell? ⟨g11, 3, none⟩ = some (.slice A2 rg.length k2))
              (first | (with_reducible exact K0d.out) | (with_reducible exact KAd.out) | (with_reducible exact KBd.out) | (with_reducible exact KABd.out) | (with_reducible exact KBAd.out) | (with_reducible exact KA.out) | (with_reducible exact KB.out) | (with_reducible exact KAB.out) | (with_reducible exact KBA.out) | (with_reducible exact K0))
              (fail)
            all_goals
              clear K0 K0d KA KAd KB KBd KAB KABd KBA KBAd o0 o1 o2 o3 o4 o5 o6 o7 o8 o9 o10 o11 o12 o13 s0 s1 s2 s3 s4 s5 s6 s7 s8 s9 s10 s11 s12 s13 m0 m1 m2 m3 m4 m5 m6 rt1 rt2 rt3 rb
              go_wp2_with fail
              generalize ((((((W11.setCell ⟨g8, 0, none⟩ (.slice A1 rs.length k1)).setCell ⟨g8, 1, none⟩ (.int .i64 rh)).setCell ⟨g8, 2, none⟩ (.int .i64 rn)).setCell ⟨g9, 0, none⟩ (.slice Ac p.length cc)).setCell ⟨g9, 1, none⟩ (.int .i64 f)).setCell ⟨g9, 2, none⟩ (.int .i64 t)).setCell ⟨g9, 3, none⟩ (.slice A2 rg.length k2) = W9 at *
              have z0 := z0.out
              have z1 := z1.out
              have z2 := z2.out
              have z3 := z3.out
              have z4 := z4.out
              have z5 := z5.out
              have z6 := z6.out
              refine bodyPost_ret (v := .tuple #[.agg #[.slice A1 rs.length k1, .int .i64 rh, .int .i64 rn], .agg #[.slice Ac p.length cc, .int .i64 f, .int .i64 t, .slice A2 rg.length k2], .int .i64 0]) (by simp [results, Tryz.results63, go_sem, z0, z1, z2, z3, z4, z5, z6]) rfl ?_
              exact grant_ok hr2.out pt1.out pt3.out pt2.out pb.out.drew
          · have hr2 : Hid (grantR sd h n p f t = (([], 0, 0), ([], 0, 0, []), rc)) := by show _ = _; rw [hr.out, if_neg hE]
            have hEb : (rc == 0) = false := by rw [beq_eq_false_iff_ne]; exact hE
            clear b12 t1 t2 sc5 x11
            have y0 := h8.cell 0
            have y1 := h8.cell 1
            have y2 := h8.cell 2
            have y3 := (box_off3 h9 hne.out (.slice none 0 0) (.int .i64 0) (.int .i64 0)).cell 0
            have y4 := (box_off3 h9 hne.out (.slice none 0 0) (.int .i64 0) (.int .i64 0)).cell 1
            have y5 := (box_off3 h9 hne.out (.slice none 0 0) (.int .i64 0) (.int .i64 0)).cell 2
            have y6 := (box_off3 h9 hne.out (.slice none 0 0) (.int .i64 0) (.int .i64 0)).cell 3
            simp only [List.getElem?_cons_zero, List.getElem?_cons_succ] at y0 y1 y2 y3 y4 y5 y6
            have f0 := h8.frozen 0
            have f1 := h8.frozen 1
            have f2 := h8.frozen 2
            have f3 := (box_off3 h9 hne.out (.slice none 0 0) (.int .i64 0) (.int .i64 0)).frozen 0
            have f4 := (box_off3 h9 hne.out (.slice none 0 0) (.int .i64 0) (.int .i64 0)).frozen 1
            have f5 := (box_off3 h9 hne.out (.slice none 0 0) (.int .i64 0) (.int .i64 0)).frozen 2
            have f6 := (box_off3 h9 hne.out (.slice none 0 0) (.int .i64 0) (.int .i64 0)).frozen 3
            go_wp2_with fail
            obtain ⟨k8, k9, kb⟩ := set34 h8 h9 (hne.out) (.slice none 0 0) (.int .i64 0) (.int .i64 0) (.slice none 0 0) (.int .i64 0) (.int .i64 0) (.slice none 0 0)
            replace kb := Lib.hid (kb w hbw.out hg8.out hg9.out)
            clear y0 y1 y2 y3 y4 y5 y6 f0 f1 f2 f3 f4 f5 f6 h8 h9
            generalize ((((((w10.setCell ⟨g8, 0, none⟩ (.slice none 0 0)).setCell ⟨g8, 1, none⟩ (.int .i64 0)).setCell ⟨g8, 2, none⟩ (.int .i64 0)).setCell ⟨g9, 0, none⟩ (.slice none 0 0)).setCell ⟨g9, 1, none⟩ (.int .i64 0)).setCell ⟨g9, 2, none⟩ (.int .i64 0)).setCell ⟨g9, 3, none⟩ (.slice none 0 0) = W9 at *
            have z0 : W9.cell? ⟨g8, 0, none⟩ = some (.slice none 0 0) := k8.cell 0
            have z1 : W9.cell? ⟨g8, 1, none⟩ = some (.int .i64 0) := k8.cell 1
            have z2 : W9.cell? ⟨g8, 2, none⟩ = some (.int .i64 0) := k8.cell 2
            have z3 : W9.cell? ⟨g9, 0, none⟩ = some (.slice none 0 0) := k9.cell 0
            have z4 : W9.cell? ⟨g9, 1, none⟩ = some (.int .i64 0) := k9.cell 1
            have z5 : W9.cell? ⟨g9, 2, none⟩ = some (.int .i64 0) := k9.cell 2
            have z6 : W9.cell? ⟨g9, 3, none⟩ = some (.slice none 0 0) := k9.cell 3
            refine bodyPost_ret (v := .tuple #[.agg #[.slice none 0 0, .int .i64 0, .int .i64 0], .agg #[.slice none 0 0, .int .i64 0, .int .i64 0, .slice none 0 0], .int .i64 rc]) (by simp [results, Tryz.results63, go_sem, z0, z1, z2, z3, z4, z5, z6]) rfl ?_
            exact grant_bad hr2.out kb.out
    · have ip : ((p.length : Int) != 32) = true := by simp; omega
      have hr : Hid (grantR sd h n p f t = (([], 0, 0), ([], 0, 0, []), 5)) := by show _ = _; rw [grantR, if_pos hV, if_neg hp32]
      replace hV := Lib.hid hV
      replace hp32 := Lib.hid hp32
      replace h8 := h8.out
      replace h9 := h9.out
      clear x4 x11 ss5 sc5
      have y0 := h8.cell 0
      have y1 := h8.cell 1
      have y2 := h8.cell 2
      have y3 := (box_off3 h9 hne.out (.slice none 0 0) (.int .i64 0) (.int .i64 0)).cell 0
      have y4 := (box_off3 h9 hne.out (.slice none 0 0) (.int .i64 0) (.int .i64 0)).cell 1
      have y5 := (box_off3 h9 hne.out (.slice none 0 0) (.int .i64 0) (.int .i64 0)).cell 2
      have y6 := (box_off3 h9 hne.out (.slice none 0 0) (.int .i64 0) (.int .i64 0)).cell 3
      simp only [List.getElem?_cons_zero, List.getElem?_cons_succ] at y0 y1 y2 y3 y4 y5 y6
      have f0 := h8.frozen 0
      have f1 := h8.frozen 1
      have f2 := h8.frozen 2
      have f3 := (box_off3 h9 hne.out (.slice none 0 0) (.int .i64 0) (.int .i64 0)).frozen 0
      have f4 := (box_off3 h9 hne.out (.slice none 0 0) (.int .i64 0) (.int .i64 0)).frozen 1
      have f5 := (box_off3 h9 hne.out (.slice none 0 0) (.int .i64 0) (.int .i64 0)).frozen 2
      have f6 := (box_off3 h9 hne.out (.slice none 0 0) (.int .i64 0) (.int .i64 0)).frozen 3
      go_wp2_with fail
      obtain ⟨k8, k9, kb⟩ := set34 h8 h9 (hne.out) (.slice none 0 0) (.int .i64 0) (.int .i64 0) (.slice none 0 0) (.int .i64 0) (.int .i64 0) (.slice none 0 0)
      replace kb := Lib.hid (kb w hbw.out hg8.out hg9.out)
      clear y0 y1 y2 y3 y4 y5 y6 f0 f1 f2 f3 f4 f5 f6 h8 h9
      generalize ((((((w6.setCell ⟨g8, 0, none⟩ (.slice none 0 0)).setCell ⟨g8, 1, none⟩ (.int .i64 0)).setCell ⟨g8, 2, none⟩ (.int .i64 0)).setCell ⟨g9, 0, none⟩ (.slice none 0 0)).setCell ⟨g9, 1, none⟩ (.int .i64 0)).setCell ⟨g9, 2, none⟩ (.int .i64 0)).setCell ⟨g9, 3, none⟩ (.slice none 0 0) = W9 at *
      have z0 : W9.cell? ⟨g8, 0, none⟩ = some (.slice none 0 0) := k8.cell 0
      have z1 : W9.cell? ⟨g8, 1, none⟩ = some (.int .i64 0) := k8.cell 1
      have z2 : W9.cell? ⟨g8, 2, none⟩ = some (.int .i64 0) := k8.cell 2
      have z3 : W9.cell? ⟨g9, 0, none⟩ = some (.slice none 0 0) := k9.cell 0
      have z4 : W9.cell? ⟨g9, 1, none⟩ = some (.int .i64 0) := k9.cell 1
      have z5 : W9.cell? ⟨g9, 2, none⟩ = some (.int .i64 0) := k9.cell 2
      have z6 : W9.cell? ⟨g9, 3, none⟩ = some (.slice none 0 0) := k9.cell 3
      refine bodyPost_ret (v := .tuple #[.agg #[.slice none 0 0, .int .i64 0, .int .i64 0], .agg #[.slice none 0 0, .int .i64 0, .int .i64 0, .slice none 0 0], .int .i64 5]) (by simp [results, Tryz.results63, go_sem, z0, z1, z2, z3, z4, z5, z6]) rfl ?_
      exact grant_bad hr.out kb.out
end Go.Proofs.YtkefbjpdpcmpnaaGreat

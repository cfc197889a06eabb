/- What a law leans on beyond the base: contracts, plain functions, walks. Conditions: those of each theorem. -/
import Derived.Test.YtjgepckncogdaaaGreatTCtP
import Derived.Test.YtjgepckncogdaaaGreatTCtZ
set_option linter.unusedVariables false
set_option linter.unusedSimpArgs false
namespace Go.Proofs.YtjgepckncogdaaaGreat
open Go Go.RowKit
set_option linter.unusedVariables false
set_option linter.unusedSimpArgs false
def certF (t : CertG) : List Spec := [.val (.string (strB t.1)), .byt t.2.1, .val (.int .i64 t.2.2.1), .val (.int .i64 t.2.2.2.1), .byt t.2.2.2.2]
theorem certS_put4 (cs : List CertG) : ∀ (i : Nat) (x : Bs), i < cs.length → (certS cs).set (i * 5 + 4) (.byt x) = certS (cs.set i ((certT cs i).1, (certT cs i).2.1, (certT cs i).2.2.1, (certT cs i).2.2.2.1, x)) := by
 induction cs with
 | nil => intro i x h; simp at h
 | cons a r ih =>
   intro i x h
   cases i with
   | zero => rfl
   | succ i =>
     have := ih i x (by simpa using h)
     show (certF a ++ certS r).set ((i + 1) * 5 + 4) (.byt x) = certF a ++ certS (r.set i ((certT r i).1, (certT r i).2.1, (certT r i).2.2.1, (certT r i).2.2.2.1, x))
     rw [← this, show (i + 1) * 5 + 4 = i * 5 + 4 + 5 by omega]
     rfl
theorem certS_put1 (cs : List CertG) : ∀ (i : Nat) (x : Bs), i < cs.length → (certS cs).set (i * 5 + 1) (.byt x) = certS (cs.set i ((certT cs i).1, x, (certT cs i).2.2.1, (certT cs i).2.2.2.1, (certT cs i).2.2.2.2)) := by
 induction cs with
 | nil => intro i x h; simp at h
 | cons a r ih =>
   intro i x h
   cases i with
   | zero => rfl
   | succ i =>
     have := ih i x (by simpa using h)
     show (certF a ++ certS r).set ((i + 1) * 5 + 1) (.byt x) = certF a ++ certS (r.set i ((certT r i).1, x, (certT r i).2.2.1, (certT r i).2.2.2.1, (certT r i).2.2.2.2))
     rw [← this, show (i + 1) * 5 + 1 = i * 5 + 1 + 5 by omega]
     rfl
theorem certS_set5 (cs : List CertG) : ∀ (i : Nat) (t : CertG), i < cs.length → (((((certS cs).set (i * 5) (.val (.string (strB t.1)))).set (i * 5 + 1) (.byt t.2.1)).set (i * 5 + 2) (.val (.int .i64 t.2.2.1))).set (i * 5 + 3) (.val (.int .i64 t.2.2.2.1))).set (i * 5 + 4) (.byt t.2.2.2.2) = certS (cs.set i t) := by
 induction cs with
 | nil => intro i t h; simp at h
 | cons a r ih =>
   intro i t h
   cases i with
   | zero => rfl
   | succ i =>
     have := ih i t (by simpa using h)
     show (((((certF a ++ certS r).set ((i + 1) * 5) _).set ((i + 1) * 5 + 1) _).set ((i + 1) * 5 + 2) _).set ((i + 1) * 5 + 3) _).set ((i + 1) * 5 + 4) _ = certF a ++ certS (r.set i t)
     rw [← this, show (i + 1) * 5 = i * 5 + 5 by omega]
     rfl
theorem set_lenC {cs : List CertG} {P : CertG → Prop} (h : ∀ t ∈ cs, P t) (i : Nat) (x : CertG) (hx : P x) : ∀ t ∈ cs.set i x, P t := fun t ht => by
 rcases List.mem_or_eq_of_mem_set ht with h1 | h1
 · exact h t h1
 · rw [h1]; exact hx
def El5 (w : World) (v : Value) (base : Nat) (t : CertG) (u0 u1 u2 u3 u4 : Value) : Prop :=
 (EltS w v u0 (.val (.string (strB t.1))) ∧ From base u0) ∧ (EltS w v u1 (.byt t.2.1) ∧ From base u1) ∧ (EltS w v u2 (.val (.int .i64 t.2.2.1)) ∧ From base u2) ∧ (EltS w v u3 (.val (.int .i64 t.2.2.2.1)) ∧ From base u3) ∧ (EltS w v u4 (.byt t.2.2.2.2) ∧ From base u4)
theorem El5.mono {w w' : World} {v v' : Value} {base : Nat} {t : CertG} {u0 u1 u2 u3 u4 : Value} (h : El5 w v base t u0 u1 u2 u3 u4) (hs : ∀ {u : Value} {s : Spec}, EltS w v u s → EltS w' v' u s) : El5 w' v' base t u0 u1 u2 u3 u4 := by
 obtain ⟨⟨a0, b0⟩, ⟨a1, b1⟩, ⟨a2, b2⟩, ⟨a3, b3⟩, ⟨a4, b4⟩⟩ := h
 exact ⟨⟨hs a0, b0⟩, ⟨hs a1, b1⟩, ⟨hs a2, b2⟩, ⟨hs a3, b3⟩, ⟨hs a4, b4⟩⟩
theorem own_cert {w : World} {g c base n : Nat} {T : TypeId} {cs : List CertG} (h : OwnRF w base T (.slice (some ⟨g, 0, none⟩) n c) 5 n (certS cs)) (h0 : 0 < n) (i : Nat) (hi : i < cs.length) :
 ∃ A1 c1 A2 c2, w.cell? ⟨g, i * 5, none⟩ = some (.string (strB (certT cs i).1)) ∧ w.cell? ⟨g, i * 5 + 1, none⟩ = some (.slice A1 (certT cs i).2.1.length c1) ∧ w.cell? ⟨g, i * 5 + 2, none⟩ = some (.int .i64 (certT cs i).2.2.1) ∧
  w.cell? ⟨g, i * 5 + 3, none⟩ = some (.int .i64 (certT cs i).2.2.2.1) ∧ w.cell? ⟨g, i * 5 + 4, none⟩ = some (.slice A2 (certT cs i).2.2.2.2.length c2) ∧
  El5 w (.slice (some ⟨g, 0, none⟩) n c) base (certT cs i) (.string (strB (certT cs i).1)) (.slice A1 (certT cs i).2.1.length c1) (.int .i64 (certT cs i).2.2.1) (.int .i64 (certT cs i).2.2.2.1) (.slice A2 (certT cs i).2.2.2.2.length c2) := by
 obtain ⟨g0, g1, g2, g3, g4⟩ := certS_get cs i _ (certT_get cs i hi)
 obtain ⟨u0, a0, b0, d0⟩ := h.cell h0 g0
 obtain ⟨u1, a1, b1, d1⟩ := h.cell h0 g1
 obtain ⟨u2, a2, b2, d2⟩ := h.cell h0 g2
 obtain ⟨u3, a3, b3, d3⟩ := h.cell h0 g3
 obtain ⟨u4, a4, b4, d4⟩ := h.cell h0 g4
 obtain ⟨rfl, k0⟩ := b0
 obtain ⟨rfl, k2⟩ := b2
 obtain ⟨rfl, k3⟩ := b3
 obtain ⟨A1, c1, rfl, -, -⟩ := SeesB.mk_ b1.1
 obtain ⟨A2, c2, rfl, -, -⟩ := SeesB.mk_ b4.1
 exact ⟨A1, c1, A2, c2, a0, a1, a2, a3, a4, ⟨⟨rfl, k0⟩, d0⟩, ⟨b1, d1⟩, ⟨⟨rfl, k2⟩, d2⟩, ⟨⟨rfl, k3⟩, d3⟩, ⟨b4, d4⟩⟩
def wr5 (w : World) (g j : Nat) (u0 u1 u2 u3 u4 : Value) : World := ((((w.setCell ⟨g, j, none⟩ u0).setCell ⟨g, j + 1, none⟩ u1).setCell ⟨g, j + 2, none⟩ u2).setCell ⟨g, j + 3, none⟩ u3).setCell ⟨g, j + 4, none⟩ u4
theorem wr5_grown (w : World) (g j : Nat) (u0 u1 u2 u3 u4 : Value) : w.grownBy (wr5 w g j u0 u1 u2 u3 u4) (some g) :=
 ggo (ggo (ggo (ggo (setCell_grown _ _ _ _) (setCell_grown _ _ _ _)) (setCell_grown _ _ _ _)) (setCell_grown _ _ _ _)) (setCell_grown _ _ _ _)
theorem wr5_below {B g j : Nat} {w W : World} (h : Below B w W) (hg : B ≤ g) (u0 u1 u2 u3 u4 : Value) : Below B w (wr5 W g j u0 u1 u2 u3 u4) :=
 ((((h.setCell (p := ⟨g, j, none⟩) hg u0).setCell (p := ⟨g, j + 1, none⟩) hg u1).setCell (p := ⟨g, j + 2, none⟩) hg u2).setCell (p := ⟨g, j + 3, none⟩) hg u3).setCell (p := ⟨g, j + 4, none⟩) hg u4
theorem cput5 {w : World} {g c base n : Nat} {T : TypeId} {cs : List CertG} (h : OwnRF w base T (.slice (some ⟨g, 0, none⟩) n c) 5 n (certS cs)) (hn : cs.length = n) (i : Nat) (hi : i < cs.length) (t : CertG) {u0 u1 u2 u3 u4 : Value} (e : El5 w (.slice (some ⟨g, 0, none⟩) n c) base t u0 u1 u2 u3 u4) :
 OwnRF (wr5 w g (i * 5) u0 u1 u2 u3 u4) base T (.slice (some ⟨g, 0, none⟩) n c) 5 n (certS (cs.set i t)) := by
 obtain ⟨⟨a0, b0⟩, ⟨a1, b1⟩, ⟨a2, b2⟩, ⟨a3, b3⟩, ⟨a4, b4⟩⟩ := e
 have g1 := setCell_grown w g (i * 5) u0
 have g2 := ggo g1 (setCell_grown _ g (i * 5 + 1) u1)
 have g3 := ggo g2 (setCell_grown _ g (i * 5 + 2) u2)
 have g4 := ggo g3 (setCell_grown _ g (i * 5 + 3) u3)
 have h1 := h.put (j := i * 5) (by omega) a0 b0
 have h2 := h1.put (j := i * 5 + 1) (by omega) (elt_grown a1 g1) b1
 have h3 := h2.put (j := i * 5 + 2) (by omega) (elt_grown a2 g2) b2
 have h4 := h3.put (j := i * 5 + 3) (by omega) (elt_grown a3 g3) b3
 have h5 := h4.put (j := i * 5 + 4) (by omega) (elt_grown a4 g4) b4
 rw [certS_set5 cs i t hi] at h5
 exact h5
def CsS (w3 : World) (G g : Nat) (v : Value) (W : World) : Prop :=
 ∃ cs : List CertG, (∀ W' : World, W.grownBy W' (some g) → SeesR W' W'.heap.size v 5 cs.length (certS cs)) ∧ cs.length ≤ 5 ∧ (∀ c ∈ cs, c.2.1.length ≤ 1048576 ∧ c.2.2.2.2.length ≤ 1048576) ∧ Below G w3 W
theorem csS_of {w3 W : World} {G g n : Nat} {T : TypeId} {v : Value} {cs : List CertG} (h : OwnRF W G T v 5 n (certS cs)) (hn : cs.length = n) (hg : g < G) (h5 : n ≤ 5) (hl : ∀ c ∈ cs, c.2.1.length ≤ 1048576 ∧ c.2.2.2.2.length ≤ 1048576) (hb : Below G w3 W) : CsS w3 G g v W :=
 ⟨cs, fun W' hW => by rw [hn]; exact (h.tape hW hg).own.sees, by omega, hl, hb⟩
theorem CsS.drew {w3 W : World} {G g : Nat} {v : Value} (h : CsS w3 G g v W) : CsS w3 G g v W.drew := by
 obtain ⟨cs, h1, h2, h3, h4⟩ := h
 exact ⟨cs, fun W' hW => h1 W' ⟨hW.os, hW.tape, hW.output, hW.size, fun k hk hne => hW.block k hk hne⟩, h2, h3, ⟨h4.os, h4.tape, h4.output, h4.size, fun k hk => h4.block k hk⟩⟩
theorem cswap_done {w3 W : World} {G g g3 c n : Nat} {T : TypeId} {cs : List CertG} (h : OwnRF w3 G T (.slice (some ⟨g3, 0, none⟩) n c) 5 n (certS cs)) (hn : cs.length = n) (hg : g < G) (hg3 : G ≤ g3) (hG : G ≤ w3.heap.size) (h5 : n ≤ 5) (hl : ∀ c ∈ cs, c.2.1.length ≤ 1048576 ∧ c.2.2.2.2.length ≤ 1048576)
 (i : Nat) (hi : i < cs.length) (h0 : 0 < cs.length) {a0 a1 a2 a3 a4 b0 b1 b2 b3 b4 : Value} (ea : El5 w3 (.slice (some ⟨g3, 0, none⟩) n c) G (certT cs i) a0 a1 a2 a3 a4) (eb : El5 w3 (.slice (some ⟨g3, 0, none⟩) n c) G (certT cs 0) b0 b1 b2 b3 b4) (hW : Below w3.heap.size w3 W) :
 CsS w3 G g (.slice (some ⟨g3, 0, none⟩) n c) (wr5 (wr5 W g3 0 a0 a1 a2 a3 a4) g3 (i * 5) b0 b1 b2 b3 b4) := by
 have ho := h.below hW
 have ea' : El5 W _ G _ _ _ _ _ _ := ea.mono fun e => e.below hW
 have eb' : El5 W _ G _ _ _ _ _ _ := eb.mono fun e => e.below hW
 have h1 := cput5 ho hn 0 h0 _ ea'
 have gr := wr5_grown W g3 (0 * 5) a0 a1 a2 a3 a4
 have h2 := cput5 h1 (by rw [List.length_set]; exact hn) i (by rw [List.length_set]; exact hi) _ (eb'.mono fun e => elt_grown e gr)
 rw [Nat.zero_mul] at h2
 exact csS_of h2 (by rw [List.length_set, List.length_set]; exact hn) hg h5 (set_lenC (P := fun c : CertG => c.2.1.length ≤ 1048576 ∧ c.2.2.2.2.length ≤ 1048576) (set_lenC (P := fun c : CertG => c.2.1.length ≤ 1048576 ∧ c.2.2.2.2.length ≤ 1048576) hl 0 _ (hl _ (certT_mem cs i hi))) i _ (hl _ (certT_mem cs 0 h0))) (wr5_below (wr5_below (hW.mono hG) hg3 _ _ _ _ _) hg3 _ _ _ _ _)
theorem two_elts {w : World} {v : Value} {G : Nat} {t : CertG} {u0 u1 u2 u3 u4 : Value} (e : El5 w v G t u0 u1 u2 u3 u4) : ∀ (k : Nat) (s : Spec), (certS (t :: t :: []))[k]? = some s → ∃ u, [u0, u1, u2, u3, u4, u0, u1, u2, u3, u4][k]? = some u ∧ EltS w v u s ∧ From G u := by
 obtain ⟨e0, e1, e2, e3, e4⟩ := e
 intro k s hk
 match k, hk with
 | 0, hk => cases hk; exact ⟨_, rfl, e0⟩
 | 1, hk => cases hk; exact ⟨_, rfl, e1⟩
 | 2, hk => cases hk; exact ⟨_, rfl, e2⟩
 | 3, hk => cases hk; exact ⟨_, rfl, e3⟩
 | 4, hk => cases hk; exact ⟨_, rfl, e4⟩
 | 5, hk => cases hk; exact ⟨_, rfl, e0⟩
 | 6, hk => cases hk; exact ⟨_, rfl, e1⟩
 | 7, hk => cases hk; exact ⟨_, rfl, e2⟩
 | 8, hk => cases hk; exact ⟨_, rfl, e3⟩
 | 9, hk => cases hk; exact ⟨_, rfl, e4⟩
theorem two_lit (W : World) (T : TypeId) (xs : List Value) (h : xs.length = 10) : Sees (W.alloc (.cells xs.toArray T)) (W.heap.size + 1) (.slice (some ⟨W.heap.size, 0, none⟩) 2 2) 5 2 xs :=
 ⟨by omega, _, 2, rfl, Nat.le_refl _, by simp [maxLen], fun _ => ⟨W.heap.size, 0, rfl, by omega, fun j u hj => by have := (Box.new W T xs).cell j; rw [Nat.zero_add, this, hj]⟩⟩
theorem csS_app {w3 W : World} {G g n : Nat} {T : TypeId} {v : Value} {cs : List CertG} (h0 : 0 < cs.length) (h : OwnRF W G T v 5 (n + 2) (certS cs ++ certS (certT cs 0 :: certT cs 0 :: []))) (hn : cs.length = n) (hg : g < G) (h5 : n ≤ 3) (hl : ∀ c ∈ cs, c.2.1.length ≤ 1048576 ∧ c.2.2.2.2.length ≤ 1048576) (hb : Below G w3 W) : CsS w3 G g v W := by
 rw [← certS_append] at h
 refine csS_of h (by simp [hn]) hg (by omega) (fun c hc => ?_) hb
 rcases List.mem_append.1 hc with h1 | h1
 · exact hl c h1
 · have : c = certT cs 0 := by simpa using h1
   rw [this]; exact hl _ (certT_mem cs 0 h0)
theorem csS_cut {w3 W : World} {G g n c g3 i : Nat} {T : TypeId} {cs : List CertG} (h : OwnRF W G T (.slice (some ⟨g3, 0, none⟩) n c) 5 n (certS cs)) (hn : cs.length = n) (hg : g < G) (h5 : n ≤ 5) (hi : i ≤ n) (hl : ∀ c ∈ cs, c.2.1.length ≤ 1048576 ∧ c.2.2.2.2.length ≤ 1048576) (hb : Below G w3 W) :
 CsS w3 G g (.slice (cutA (some ⟨g3, 0, none⟩) c i 5) (n - i) (c - i)) W := by
 have hl1 : ((cs.drop i).take (n - i)).length = n - i := by rw [List.length_take, List.length_drop]; omega
 refine ⟨(cs.drop i).take (n - i), fun W' hW => ?_, by omega, fun t ht => hl t (List.mem_of_mem_drop (List.mem_of_mem_take ht)), hb⟩
 rw [hl1]
 exact certs_cut (h.tape hW hg).own.sees hn hi (Nat.le_refl _)
end Go.Proofs.YtjgepckncogdaaaGreat

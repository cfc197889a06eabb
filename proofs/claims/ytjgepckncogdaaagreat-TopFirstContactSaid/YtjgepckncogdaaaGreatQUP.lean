/- What a law leans on beyond the base: contracts, plain functions, walks. Conditions: those of each theorem. -/
import Derived.Deep.CutBlock
import Derived.Test.YtjgepckncogdaaaGreatQSpansT
set_option linter.unusedVariables false
set_option linter.unusedSimpArgs false
namespace Go.Proofs.YtjgepckncogdaaaGreat
abbrev Sp := Int × Int
def hol (t : Int) (s : Sp) : Bool := decide (s.1 ≤ t ∧ t ≤ s.2)
def cnt (l : List Sp) (t : Int) : Nat := l.countP (hol t)
def PInv (l : List Sp) (x : Int) (out : List (Int × Int × Int)) : Prop :=
 out.Pairwise (fun a b => a.2.1 < b.1) ∧
 (∀ a ∈ out, a.1 ≤ a.2.1 ∧ a.2.1 < x ∧ ∀ t, a.1 ≤ t → t ≤ a.2.1 → (cnt l t : Int) = a.2.2) ∧
 (∀ t, t < x → 1 ≤ cnt l t → ∃ a ∈ out, a.1 ≤ t ∧ t ≤ a.2.1)
def PAll (l : List Sp) (out : List (Int × Int × Int)) : Prop :=
 out.Pairwise (fun a b => a.2.1 < b.1) ∧
 (∀ a ∈ out, a.1 ≤ a.2.1 ∧ ∀ t, a.1 ≤ t → t ≤ a.2.1 → (cnt l t : Int) = a.2.2) ∧
 (∀ t, 1 ≤ cnt l t → ∃ a ∈ out, a.1 ≤ t ∧ t ≤ a.2.1)
section
variable {l : List Sp} {x y c : Int} {out ini : List (Int × Int × Int)} {q : Int × Int × Int}
theorem PInv.skip (h : PInv l x out) (hxy : x ≤ y) (h0 : ∀ t, x ≤ t → t < y → cnt l t = 0) : PInv l y out := by
 obtain ⟨h1, h2, h3⟩ := h
 refine ⟨h1, fun a ha => ?_, fun t ht hc => ?_⟩
 · obtain ⟨p1, p2, p3⟩ := h2 a ha
   exact ⟨p1, by omega, p3⟩
 · rcases Int.lt_or_le t x with h | h
   · exact h3 t h hc
   · have := h0 t h ht; omega
theorem PInv.all (h : PInv l x out) (h0 : ∀ t, x ≤ t → cnt l t = 0) : PAll l out := by
 obtain ⟨h1, h2, h3⟩ := h
 exact ⟨h1, fun a ha => ⟨(h2 a ha).1, (h2 a ha).2.2⟩, fun t hc => h3 t (by
  rcases Int.lt_or_le t x with h | h
  · exact h
  · have := h0 t h; omega) hc⟩
end
def LInv (l : List Sp) (n : Int) (ps : List (Int × Int × Int)) (k : Nat) (out : List Sp) : Prop :=
 out.Pairwise (fun a b => a.2 < b.1) ∧
 (∀ a ∈ out, a.1 ≤ a.2 ∧ (∀ (j : Nat) q, k ≤ j → ps[j]? = some q → a.2 < q.1) ∧ ∀ t, a.1 ≤ t → t ≤ a.2 → n ≤ (cnt l t : Int)) ∧
 (∀ (j : Nat) q, j < k → ps[j]? = some q → n ≤ q.2.2 → ∀ t, q.1 ≤ t → t ≤ q.2.1 → ∃ a ∈ out, a.1 ≤ t ∧ t ≤ a.2)
def LAll (l : List Sp) (n : Int) (out : List Sp) : Prop :=
 out.Pairwise (fun a b => a.2 < b.1) ∧ (∀ a ∈ out, a.1 ≤ a.2 ∧ ∀ t, a.1 ≤ t → t ≤ a.2 → n ≤ (cnt l t : Int)) ∧ (∀ t, n ≤ (cnt l t : Int) → ∃ a ∈ out, a.1 ≤ t ∧ t ≤ a.2)
section
variable {l : List Sp} {n : Int} {ps : List (Int × Int × Int)} {k : Nat} {out ini : List Sp} {p : Int × Int × Int} {q : Sp}
theorem LInv.skip (h : LInv l n ps k out) (hp : ps[k]? = some p) (hc : p.2.2 < n) : LInv l n ps (k + 1) out := by
 obtain ⟨h1, h2, h3⟩ := h
 refine ⟨h1, fun a ha => ⟨(h2 a ha).1, fun j q hj hq => (h2 a ha).2.1 j q (by omega) hq, (h2 a ha).2.2⟩, fun j q hj hq hn => ?_⟩
 rcases Nat.lt_or_ge j k with h | h
 · exact h3 j q h hq hn
 · obtain rfl : j = k := by omega
   rw [hp] at hq
   obtain rfl := Option.some.inj hq
   omega
theorem LInv.all (hA : PAll l ps) (h : LInv l n ps ps.length out) (hn : 1 ≤ n) : LAll l n out := by
 obtain ⟨h1, h2, h3⟩ := h
 refine ⟨h1, fun a ha => ⟨(h2 a ha).1, (h2 a ha).2.2⟩, fun t ht => ?_⟩
 obtain ⟨a, ha, t1, t2⟩ := hA.2.2 t (by omega)
 obtain ⟨j, hj⟩ := List.getElem?_of_mem ha
 exact h3 j a (List.getElem?_eq_some_iff.1 hj).1 hj (by rw [← (hA.2.1 a ha).2 t t1 t2]; exact ht) t t1 t2
end
def IsHull (l : List Sp) (n : Int) : Option Sp → Prop
 | none => ∀ t, (cnt l t : Int) < n
 | some s => n ≤ (cnt l s.1 : Int) ∧ n ≤ (cnt l s.2 : Int) ∧ ∀ t, n ≤ (cnt l t : Int) → s.1 ≤ t ∧ t ≤ s.2
theorem LAll.none {l : List Sp} {n : Int} (h : LAll l n []) : IsHull l n none := fun t => by
 rcases Int.lt_or_le (cnt l t : Int) n with h1 | h1
 · exact h1
 · obtain ⟨a, ha, -⟩ := h.2.2 t h1
   cases ha
theorem pair_first {α : Type} {R : α → α → Prop} {out : List α} {a b : α} (h : out.Pairwise R) (ha : out[0]? = some a) (hb : b ∈ out) : a = b ∨ R a b := by
 obtain ⟨j, hj⟩ := List.getElem?_of_mem hb
 obtain ⟨h0, rfl⟩ := List.getElem?_eq_some_iff.1 ha
 obtain ⟨h1, rfl⟩ := List.getElem?_eq_some_iff.1 hj
 rcases Nat.eq_zero_or_pos j with rfl | h2
 · exact .inl rfl
 · exact .inr (List.pairwise_iff_getElem.1 h 0 j h0 h1 h2)
theorem pair_last {α : Type} {R : α → α → Prop} {out : List α} {a b : α} (h : out.Pairwise R) (ha : out[out.length - 1]? = some a) (hb : b ∈ out) : b = a ∨ R b a := by
 obtain ⟨j, hj⟩ := List.getElem?_of_mem hb
 obtain ⟨h0, rfl⟩ := List.getElem?_eq_some_iff.1 ha
 obtain ⟨h1, rfl⟩ := List.getElem?_eq_some_iff.1 hj
 rcases Nat.lt_or_ge j (out.length - 1) with h2 | h2
 · exact .inr (List.pairwise_iff_getElem.1 h j _ h1 h0 h2)
 · obtain rfl : j = out.length - 1 := by omega
   exact .inl rfl
theorem LAll.some {l : List Sp} {n : Int} {out : List Sp} {a b : Sp} (h : LAll l n out) (ha : out[0]? = some a) (hb : out[out.length - 1]? = some b) : IsHull l n (some (a.1, b.2)) := by
 obtain ⟨h1, h2, h3⟩ := h
 have ma := h2 a (List.mem_of_getElem? ha)
 have mb := h2 b (List.mem_of_getElem? hb)
 refine ⟨ma.2 _ (Int.le_refl _) ma.1, mb.2 _ mb.1 (Int.le_refl _), fun t ht => ?_⟩
 obtain ⟨c, hc, t1, t2⟩ := h3 t ht
 have mc := h2 c hc
 constructor
 · rcases pair_first h1 ha hc with e | e
   · subst e; exact t1
   · show a.1 ≤ t; omega
 · rcases pair_last h1 hb hc with e | e
   · subst e; exact t2
   · show t ≤ b.2; omega
end Go.Proofs.YtjgepckncogdaaaGreat
namespace Go.Proofs.YtjgepckncogdaaaGreat
open Go Go.RowKit
set_option linter.unusedVariables false
set_option linter.unusedSimpArgs false
attribute [local go_sem ↓] Go.wp_at_zero Go.wp_at_succ
def spV (l : List Sp) : List Value := l.flatMap fun s => [.int .i64 s.1, .int .i64 s.2]
theorem spV_cons (s : Sp) (l : List Sp) : spV (s :: l) = .int .i64 s.1 :: .int .i64 s.2 :: spV l := rfl
theorem spV_append (a b : List Sp) : spV (a ++ b) = spV a ++ spV b := List.flatMap_append
theorem spV_get (l : List Sp) : ∀ (j : Nat) (s : Sp), l[j]? = some s → (spV l)[j * 2]? = some (.int .i64 s.1) ∧ (spV l)[j * 2 + 1]? = some (.int .i64 s.2) := by
 induction l with
 | nil => intro j s h; simp at h
 | cons a l ih =>
   intro j s h
   cases j with
   | zero => simp at h; subst h; exact ⟨rfl, rfl⟩
   | succ j =>
     rw [List.getElem?_cons_succ] at h
     have := ih j s h
     rw [spV_cons, show (j + 1) * 2 = j * 2 + 1 + 1 by omega, List.getElem?_cons_succ, List.getElem?_cons_succ, List.getElem?_cons_succ, List.getElem?_cons_succ]
     exact this
def SeesS (w : World) (B : Nat) (v : Value) (l : List Sp) : Prop := Sees w B v 2 l.length (spV l)
def OwnS (w : World) (base : Nat) (v : Value) (l : List Sp) : Prop := w.ownsRow base 24 2 v l.length (spV l)
theorem OwnS.sees {w : World} {base : Nat} {v : Value} {l : List Sp} (h : OwnS w base v l) : SeesS w w.heap.size v l := Sees.of_own h
theorem OwnS.below {w w' : World} {base : Nat} {v : Value} {l : List Sp} (h : OwnS w base v l) (hb : Below w.heap.size w w') : OwnS w' base v l := own_below h hb
section
variable {w w' : World} {B B' : Nat} {v : Value} {l : List Sp}
theorem SeesS.mk_ (h : SeesS w B v l) : ∃ A c, v = .slice A l.length c ∧ l.length ≤ c ∧ c ≤ maxLen := Sees.mk_ h
theorem SeesS.below (h : SeesS w B v l) (hb : Below B w w') : SeesS w' B v l := Sees.below h hb
theorem SeesS.more (h : SeesS w B v l) (hB : B ≤ B') : SeesS w B' v l := Sees.more h hB
theorem SeesS.at_ {A : Option Addr} {n c : Nat} (h : SeesS w B (.slice A n c) l) (hn : 0 < l.length) : ∃ b o, A = some ⟨b, o, none⟩ ∧ b < B ∧ ∀ j s, l[j]? = some s → w.cell? ⟨b, o + j * 2, none⟩ = some (.int .i64 s.1) ∧ w.cell? ⟨b, o + j * 2 + 1, none⟩ = some (.int .i64 s.2) := by
 obtain ⟨A', c', e, -, -⟩ := h.mk_
 injection e with e1 e2 e3
 subst e1 e2 e3
 obtain ⟨b, o, e, hb, hc⟩ := Sees.at_ h hn
 exact ⟨b, o, e, hb, fun j s hs => ⟨hc _ _ (spV_get l j s hs).1, by rw [Nat.add_assoc]; exact hc _ _ (spV_get l j s hs).2⟩⟩
end
end Go.Proofs.YtjgepckncogdaaaGreat
namespace Go.Proofs.YtjgepckncogdaaaGreat
open Go Go.RowKit
set_option linter.unusedVariables false
set_option linter.unusedSimpArgs false
attribute [local go_sem ↓] Go.wp_at_zero Go.wp_at_succ
def meB (a b c d : Int) : Bool := vS a b && (vS c d && decide (max a c ≤ min b d))
def meV (a b c d : Int) : Int × Int := if meB a b c d = true then (max a c, min b d) else (0, 0)
def MeetP (a b c d : Int) (w : World) (e : Ending) (w' : World) : Prop := e = .returned (.tuple #[.agg #[.int .i64 (meV a b c d).1, .int .i64 (meV a b c d).2], .bool (meB a b c d)]) ∧ Below w.heap.size w w'
theorem meet_no {a b c d : Int} {w w' : World} (h : meB a b c d = false) (hb : Below w.heap.size w w') : MeetP a b c d w (.returned (.tuple #[.agg #[.int .i64 0, .int .i64 0], .bool false])) w' := by
 unfold MeetP meV; rw [h]; exact ⟨rfl, hb⟩
theorem meet_yes {a b c d x y : Int} {w w' : World} (h : meB a b c d = true) (h1 : max a c = x) (h2 : min b d = y) (hb : Below w.heap.size w w') : MeetP a b c d w (.returned (.tuple #[.agg #[.int .i64 x, .int .i64 y], .bool true])) w' := by
 subst h1 h2; unfold MeetP meV; rw [h]; exact ⟨rfl, hb⟩
theorem vS_mn {a b c d m n : Int} (hm : max a c = m) (hn : min b d = n) (p : vS a b = true) (q : vS c d = true) : vS m n = decide (m ≤ n) := by
 unfold vS at *
 simp at p q
 rw [Bool.eq_iff_iff]
 simp
 omega
theorem boxes3 (w : World) (T1 T2 T3 : TypeId) (x y z : List Value) :
 Box (((w.alloc (.cells x.toArray T1)).alloc (.cells y.toArray T2)).alloc (.cells z.toArray T3)) w.heap.size T1 x ∧ Box (((w.alloc (.cells x.toArray T1)).alloc (.cells y.toArray T2)).alloc (.cells z.toArray T3)) (w.heap.size + 1) T2 y ∧
 Box (((w.alloc (.cells x.toArray T1)).alloc (.cells y.toArray T2)).alloc (.cells z.toArray T3)) (w.heap.size + 1 + 1) T3 z ∧ Below w.heap.size w (((w.alloc (.cells x.toArray T1)).alloc (.cells y.toArray T2)).alloc (.cells z.toArray T3)) := by
 refine ⟨((Box.new w T1 x).below (balloc _ _)).below (balloc _ _), ?_, ?_, bgo (bgo (balloc _ _) (balloc _ _)) (balloc _ _)⟩
 · have := (Box.new (w.alloc (.cells x.toArray T1)) T2 y).below (balloc _ (.cells z.toArray T3))
   rwa [World.size_alloc] at this
 · have := Box.new ((w.alloc (.cells x.toArray T1)).alloc (.cells y.toArray T2)) T3 z
   rwa [World.size_alloc, World.size_alloc] at this
set_option maxRecDepth 100000 in
set_option maxHeartbeats 1000000 in
theorem meet_any (a b c d : Int) (w : World) :
 Calls Tryz.prog 175 #[.agg #[.int .i64 a, .int .i64 b], .agg #[.int .i64 c, .int .i64 d]] w (MeetP a b c d w) := by
 have hva := Lib.hid (fun lo hi W => valid_any lo hi W)
 obtain ⟨x2, x3, x4, hb0⟩ := boxes3 w 24 24 24 [.int .i64 a, .int .i64 b] [.int .i64 c, .int .i64 d] [.int .i64 0, .int .i64 0]
 change Box (((w.alloc (.cells #[.int .i64 a, .int .i64 b] 24)).alloc (.cells #[.int .i64 c, .int .i64 d] 24)).alloc (.cells #[.int .i64 0, .int .i64 0] 24)) _ _ _ at x2 x3 x4
 change Below _ w (((w.alloc (.cells #[.int .i64 a, .int .i64 b] 24)).alloc (.cells #[.int .i64 c, .int .i64 d] 24)).alloc (.cells #[.int .i64 0, .int .i64 0] 24)) at hb0
 have x5 := fun x y => Box.new (((w.alloc (.cells #[.int .i64 a, .int .i64 b] 24)).alloc (.cells #[.int .i64 c, .int .i64 d] 24)).alloc (.cells #[.int .i64 0, .int .i64 0] 24)) 24 [.int .i64 x, .int .i64 y]
 go_enter Tryz.func175, Tryz.ntmps175
 go_upto_region 1 with (fail)
 generalize ((w.alloc (.cells #[.int .i64 a, .int .i64 b] 24)).alloc (.cells #[.int .i64 c, .int .i64 d] 24)).alloc (.cells #[.int .i64 0, .int .i64 0] 24) = W0 at *
 generalize hg2 : w.heap.size = g2 at *
 generalize hg3 : g2 + 1 = g3 at *
 generalize hg4 : g3 + 1 = g4 at *
 obtain ⟨y0, y1⟩ := boxT2 x2
 obtain ⟨z0, z1⟩ := boxT2 x3
 replace hg2 := Lib.hid hg2
 replace hg3 := Lib.hid hg3
 replace hg4 := Lib.hid hg4
 replace x5 := Lib.hid x5
 have x6 := x5.out (max a c) (min b d)
 go_upto_region 2 with (fail)
 have hbw : Hid (Below w.heap.size w (W0.alloc (.cells #[.int .i64 (max a c), .int .i64 (min b d)] 24))) := bgo (hg2.out ▸ hb0) (balloc W0 (.cells #[.int .i64 (max a c), .int .i64 (min b d)] 24))
 replace x2 := x2.below (balloc W0 (.cells #[.int .i64 (max a c), .int .i64 (min b d)] 24))
 replace x3 := x3.below (balloc W0 (.cells #[.int .i64 (max a c), .int .i64 (min b d)] 24))
 replace x4 := x4.below (balloc W0 (.cells #[.int .i64 (max a c), .int .i64 (min b d)] 24))
 have hM : Hid (max a c = max a c) := rfl
 have hN : Hid (min b d = min b d) := rfl
 have hme : Hid (meB a b c d = (vS a b && (vS c d && decide (max a c ≤ min b d)))) := rfl
 have hvo : Hid (vS a b = true → vS c d = true → vS (max a c) (min b d) = decide (max a c ≤ min b d)) := vS_mn rfl rfl
 clear x5 y0 y1 z0 z1
 change Box (W0.alloc (.cells #[.int .i64 (max a c), .int .i64 (min b d)] 24)) _ _ _ at x6
 generalize W0.alloc (.cells #[.int .i64 (max a c), .int .i64 (min b d)] 24) = W1 at *
 generalize W0.heap.size = g5 at *
 generalize hmm : max a c = m at x6 hme hvo ⊢
 generalize hnn : min b d = n at x6 hme hvo ⊢
 replace hmm := Lib.hid hmm
 replace hnn := Lib.hid hnn
 clear hM hN
 obtain ⟨y0, y1⟩ := boxT2 x2
 go_wp2_with fail
 refine (hva.out _ _ _).mono ?_
 rintro e w1 ⟨rfl, hb1⟩
 replace x3 := x3.below hb1
 replace x4 := x4.below hb1
 replace x6 := x6.below hb1
 replace hbw := Lib.hid (bgo hbw.out hb1)
 clear y0 y1 hb1 x2
 dsimp only
 cases hv1 : vS a b with
 | false =>
   rw [hv1] at hme
   replace hv1 := Lib.hid hv1
   obtain ⟨k0, k1, k2, k3⟩ := box2_cells x4
   have x7 := box_set2 x4 (.int .i64 0) (.int .i64 0)
   have hb9 := Lib.hid (below_set2 (g := g4) hbw.out (Nat.le_of_lt (by have := hg3.out; have := hg4.out; have := hg2.out; omega)) (.int .i64 0) (.int .i64 0))
   go_wp2_with fail
   clear k0 k1 k2 k3
   obtain ⟨k0, k1⟩ := boxT2 x7
   refine bodyPost_ret (v := .tuple #[.agg #[.int .i64 0, .int .i64 0], .bool false]) (by simp [results, Tryz.results175, go_sem, k0, k1]) rfl ?_
   exact meet_no (by rw [hme.out]; rfl) hb9.out
 | true =>
   rw [hv1] at hme
   replace hv1 := Lib.hid hv1
   obtain ⟨y0, y1⟩ := boxT2 x3
   go_wp2_with fail
   refine (hva.out _ _ _).mono ?_
   rintro e w2 ⟨rfl, hb1⟩
   replace x4 := x4.below hb1
   replace x6 := x6.below hb1
   replace hbw := Lib.hid (bgo hbw.out hb1)
   clear y0 y1 hb1 x3
   dsimp only
   cases hv2 : vS c d with
   | false =>
     rw [hv2] at hme
     replace hv2 := Lib.hid hv2
     obtain ⟨k0, k1, k2, k3⟩ := box2_cells x4
     have x7 := box_set2 x4 (.int .i64 0) (.int .i64 0)
     have hb9 := Lib.hid (below_set2 (g := g4) hbw.out (Nat.le_of_lt (by have := hg3.out; have := hg4.out; have := hg2.out; omega)) (.int .i64 0) (.int .i64 0))
     go_wp2_with fail
     clear k0 k1 k2 k3
     obtain ⟨k0, k1⟩ := boxT2 x7
     refine bodyPost_ret (v := .tuple #[.agg #[.int .i64 0, .int .i64 0], .bool false]) (by simp [results, Tryz.results175, go_sem, k0, k1]) rfl ?_
     exact meet_no (by rw [hme.out]; rfl) hb9.out
   | true =>
     rw [hv2] at hme
     replace hv2 := Lib.hid hv2
     obtain ⟨y0, y1⟩ := boxT2 x6
     go_wp2_with fail
     refine (hva.out _ _ _).mono ?_
     rintro e w3 ⟨rfl, hb1⟩
     replace x4 := x4.below hb1
     replace x6 := x6.below hb1
     replace hbw := Lib.hid (bgo hbw.out hb1)
     clear y0 y1 hb1
     dsimp only
     rw [hvo.out hv1.out hv2.out]
     have hme2 : Hid (meB a b c d = decide (m ≤ n)) := by show _ = _; rw [hme.out]; rfl
     generalize decide (m ≤ n) = q at *
     cases q with
     | false =>
       obtain ⟨k0, k1, k2, k3⟩ := box2_cells x4
       have x7 := box_set2 x4 (.int .i64 0) (.int .i64 0)
       have hb9 := Lib.hid (below_set2 (g := g4) hbw.out (Nat.le_of_lt (by have := hg3.out; have := hg4.out; have := hg2.out; omega)) (.int .i64 0) (.int .i64 0))
       go_wp2_with fail
       clear k0 k1 k2 k3
       obtain ⟨k0, k1⟩ := boxT2 x7
       refine bodyPost_ret (v := .tuple #[.agg #[.int .i64 0, .int .i64 0], .bool false]) (by simp [results, Tryz.results175, go_sem, k0, k1]) rfl ?_
       exact meet_no (by exact hme2.out) hb9.out
     | true =>
       obtain ⟨k0, k1, k2, k3⟩ := box2_cells x4
       obtain ⟨y0, y1⟩ := boxT2 x6
       have x7 := box_set2 x4 (.int .i64 m) (.int .i64 n)
       have hb9 := Lib.hid (below_set2 (g := g4) hbw.out (Nat.le_of_lt (by have := hg3.out; have := hg4.out; have := hg2.out; omega)) (.int .i64 m) (.int .i64 n))
       go_wp2_with fail
       clear k0 k1 k2 k3 y0 y1
       obtain ⟨k0, k1⟩ := boxT2 x7
       refine bodyPost_ret (v := .tuple #[.agg #[.int .i64 m, .int .i64 n], .bool true]) (by simp [results, Tryz.results175, go_sem, k0, k1]) rfl ?_
       exact meet_yes hme2.out hmm.out hnn.out hb9.out
end Go.Proofs.YtjgepckncogdaaaGreat

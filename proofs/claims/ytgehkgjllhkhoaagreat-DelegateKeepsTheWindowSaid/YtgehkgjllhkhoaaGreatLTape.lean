/- What a law leans on beyond the base: contracts, plain functions, walks. Conditions: those of each theorem. -/
import Derived.Test.YtgehkgjllhkhoaaGreatLC1
import Derived.Test.YtgehkgjllhkhoaaGreatH29
namespace Go.Proofs.YtgehkgjllhkhoaaGreat
open Go Go.RowKit
set_option linter.unusedVariables false
set_option linter.unusedSimpArgs false
attribute [local go_sem ↓] Go.wp_at_zero Go.wp_at_succ
def SeesT (w : World) (B : Nat) (v : Value) (l : List Int) : Prop := Sees w B v 1 l.length (l.map fun x => Value.int .i64 x)
theorem SeesT.mk_ {w : World} {B : Nat} {v : Value} {l : List Int} (h : SeesT w B v l) : ∃ A c, v = .slice A l.length c ∧ l.length ≤ c ∧ c ≤ maxLen := Sees.mk_ h
theorem SeesT.at_ {w : World} {B n c : Nat} {A : Option Addr} {l : List Int} (h : SeesT w B (.slice A n c) l) (hn : 0 < l.length) : ∃ b o, A = some ⟨b, o, none⟩ ∧ b < B ∧ ∀ j, j < l.length → w.cell? ⟨b, o + j, none⟩ = some (.int .i64 (l.getD j 0)) := by
 obtain ⟨A', c', e, -, -⟩ := h.mk_
 injection e with e1 e2 e3
 subst e1 e2 e3
 obtain ⟨b, o, e, hb, hc⟩ := Sees.at_ h hn
 refine ⟨b, o, e, hb, fun j hj => hc j _ ?_⟩
 rw [List.getElem?_map, List.getElem?_eq_getElem hj, List.getD_eq_getElem?_getD, List.getElem?_eq_getElem hj]
 rfl
def TapeAt (w : World) (g : Nat) (u : Value) (l : List Int) (k : Nat) : Prop := Box w g 108 [u, .int .i64 k] ∧ SeesT w g u l ∧ k ≤ l.length
theorem TapeAt.grown {w w' : World} {g : Nat} {u : Value} {l : List Int} {k : Nat} (h : TapeAt w g u l k) (hb : Below w.heap.size w w') : TapeAt w' g u l k :=
 ⟨h.1.below hb, Sees.below h.2.1 (hb.mono (Nat.le_of_lt h.1.lt)), h.2.2⟩
theorem TapeAt.drew {w : World} {g : Nat} {u : Value} {l : List Int} {k : Nat} (h : TapeAt w g u l k) : TapeAt w.drew g u l k := h.grown (bdrew w)
end Go.Proofs.YtgehkgjllhkhoaaGreat
namespace Go.Proofs.YtgehkgjllhkhoaaGreat
open Go.RowKit
set_option linter.unusedVariables false
attribute [local go_sem ↓] Go.wp_at_zero Go.wp_at_succ
def nonceC (b x : Bs) : Int := if 2048 < b.length then 2 else if x.length = 32 then 0 else 3
def nonceG (b x : Bs) : Bs := if nonceC b x = 0 then sha (b ++ x) else []
def linkS (ls : List (Bs × Bs × Bs)) : List Spec := ls.flatMap fun t => [.byt t.1, .byt t.2.1, .byt t.2.2]
def lastA (ls : List (Bs × Bs × Bs)) : Bs := match ls.getLast? with
 | none => []
 | some t => t.2.2
def nextG (ls : List (Bs × Bs × Bs)) (x : Bs) : Bs := if 8 ≤ ls.length then [] else nonceG (lastA ls) x
abbrev LinkG := Bs × Bs × Bs
def linkT (ls : List LinkG) (i : Nat) : LinkG := ls.getD i ([], [], [])
theorem TapeAt.row {w w' : World} {g k : Nat} {r : Option Nat} {u : Value} {l : List Int} (h : TapeAt w g u l k) (hg : w.grownBy w' r) (hne : ∀ j, r = some j → g < j) : TapeAt w' g u l k := by
 obtain ⟨h1, h2, h3⟩ := h
 refine ⟨(hg.block g h1.lt (fun e => by have := hne g e.symm; omega)).trans h1, Sees.below h2 ⟨hg.os, hg.tape, hg.output, hg.size, fun k hk => hg.block k (by have := h1.lt; omega) (fun e => by have := hne k e.symm; omega)⟩, h3⟩
def OwnRF (w : World) (base : Nat) (T : TypeId) (v : Value) (size n : Nat) (ss : List Spec) : Prop :=
 ss.length = n * size ∧ ∃ vs : List Value, w.ownsRow base T size v n vs ∧ ∀ (k : Nat) (s : Spec), ss[k]? = some s → ∃ u, vs[k]? = some u ∧ EltS w v u s ∧ From base u
theorem OwnRF.own {w : World} {base size n : Nat} {T : TypeId} {v : Value} {ss : List Spec} (h : OwnRF w base T v size n ss) : OwnR w base T v size n ss := by
 obtain ⟨h0, vs, h1, h2⟩ := h
 exact ⟨h0, vs, h1, fun k s hk => by obtain ⟨u, e1, e2, -⟩ := h2 k s hk; exact ⟨u, e1, e2⟩⟩
theorem OwnRF.nil (w : World) (base : Nat) (T : TypeId) (size : Nat) : OwnRF w base T (.slice none 0 0) size 0 [] := ⟨by simp, [], World.ownsRow_nil w base T size, fun k s hk => by simp at hk⟩
theorem OwnRF.below {w w' : World} {base size n : Nat} {T : TypeId} {v : Value} {ss : List Spec} (h : OwnRF w base T v size n ss) (hb : Below w.heap.size w w') : OwnRF w' base T v size n ss := by
 obtain ⟨h0, vs, h1, h2⟩ := h
 exact ⟨h0, vs, own_below h1 hb, fun k s hk => by obtain ⟨u, e1, e2, e3⟩ := h2 k s hk; exact ⟨u, e1, e2.below hb, e3⟩⟩
def KeyPostF (seed : Bs) (h : Int) (w : World) (e : Ending) (w' : World) : Prop :=
 ∃ v, e = .returned (.tuple #[v, .int .i64 (pubC seed h)]) ∧ SeesB w' w'.heap.size v (pubG seed h) ∧ From w.heap.size v ∧ Below w.heap.size w w'
set_option maxRecDepth 100000 in
theorem rpublicF_any (B : Nat) (u : Value) (seed : Bs) (h : Int) (w : World) (hu : SeesB w B u seed) (hB : B ≤ w.heap.size) (hl : seed.length = 32) (hh : 0 ≤ h ∧ h ≤ 6) :
 Calls Tryz.prog 68 #[u, .int .i64 h] w (KeyPostF seed h w) := by
 obtain ⟨h0, h1⟩ := hh
 obtain ⟨k, rfl⟩ := Int.eq_ofNat_of_zero_le h0
 have hc := rleaves_any B u seed k w hu hB hl (by omega)
 have hv : Hid (pubC seed k = 0) := by show _ = _; simp [pubC, hl]; omega
 have hv2 : Hid (pubG seed k = keyG seed k) := by show _ = _; simp [pubG, hl]; omega
 have j0 : decide ((k : Int) < 0) = false := by simp
 have j1 : ¬ ((6 : Int) < (k : Int)) := by omega
 replace hc : Hid (Calls _ _ _ _ (GivesL (leavesL seed (2 ^ k)) w)) := hc
 have hlen := leavesL_len seed (2 ^ k)
 have hp := pow_le64 k (by omega)
 have hel := Lib.hid (leavesL_el seed (2 ^ k))
 obtain ⟨A, c, rfl, -, -⟩ := hu.mk_
 rw [hl] at hc ⊢
 clear hu hl
 rw [← key_root] at hv2
 generalize leavesL seed (2 ^ k) = ls at *
 go_enter Tryz.func68, Tryz.ntmps68
 go_wp2_with fail
 refine hc.out.mono ?_
 rintro e w1 ⟨v, rfl, k1, hb1⟩
 dsimp only
 go_wp2_with fail
 refine (rroot_top ls _ _ _ k1.sees (Nat.le_refl _) (by omega) (fun l hx => by have := hel.out l hx; omega)).mono ?_
 rintro e w2 ⟨v2, rfl, h2, hb2⟩
 dsimp only
 go_wp2_with fail
 go_returns
 exact ⟨v2, by rw [hv.out]; rfl, by rw [hv2.out]; exact h2.sees, h2.from.mono hb1.size, bgo hb1 hb2⟩
section
variable {w w' : World} {base n size : Nat} {T : TypeId} {v : Value} {ss : List Spec}
theorem OwnR.poke {G j : Nat} {T' : TypeId} {v' : Value} {xs : List Value} (h : OwnR w base T v size n ss) (hG : G < base) (hbx : Box w G T' xs) (hno : NoByte xs) : OwnR (w.setCell ⟨G, j, none⟩ v') base T v size n ss := by
 have hlt := h.lt
 obtain ⟨h0, vs, h1, h2⟩ := h
 have hne : v.ownBlock ≠ some G := fun e => by have := (hlt G e).1; omega
 refine ⟨h0, vs, h1.kept (setCell_grown w G j v') (.inr hne), fun k s hk => ?_⟩
 obtain ⟨u, e1, e2⟩ := h2 k s hk
 refine ⟨u, e1, ?_⟩
 cases s with
 | val x => exact e2
 | byt l => exact ⟨SeesB.more (e2.1.stay fun hl k hk p hp => World.cell?_setCell_other w _ p v' (fun e => e2.1.notin hbx hno hl (by rw [hk, ← hp, ← e]))) (by simp [World.setCell]), e2.2⟩
theorem before {w7 X w8 : World} (h : Below w7.heap.size w7 X) (h8 : Below X.heap.size X w8) : w7.heap.size ≤ X.heap.size := h.size
end
end Go.Proofs.YtgehkgjllhkhoaaGreat
namespace Go.Proofs.YtgehkgjllhkhoaaGreat
open Go Go.RowKit
section
variable {P : Program} {ops : Array Oper} {Q : Exit → Act → World → Prop} {md : Region.Mode} {S : World → Prop} {s : Nat}
def TillJ (S : World → Prop) (s : Nat) (listed : Array Bool) (w : World) : Prop := listed.getD s true = false → S w
def wpAnyJ (P : Program) (md : Region.Mode) (ops : Array Oper) (Q : Exit → Act → World → Prop) (S : World → Prop) (s : Nat) : Nat → Array Bool → Act → World → Prop
 | 0, listed, a, w => Region.ready md ops listed = [] ∧ Q .normal a w
 | fuel + 1, listed, a, w =>
   (Region.ready md ops listed = [] → Q .normal a w) ∧
   ∀ i ∈ Region.ready md ops listed, wpOp P ops Q i (fun a' w' => TillJ S s (listed.setIfInBounds i true) w' ∧ wpAnyJ P md ops Q S s fuel (listed.setIfInBounds i true) a' w') a w
def AllReadyJ (P : Program) (md : Region.Mode) (ops : Array Oper) (Q : Exit → Act → World → Prop) (S : World → Prop) (s fuel : Nat) (listed : Array Bool) (a : Act) (w : World) (rs : List Nat) : Prop :=
 ∀ i ∈ rs, wpOp P ops Q i (fun a' w' => TillJ S s (listed.setIfInBounds i true) w' ∧ wpAnyJ P md ops Q S s fuel (listed.setIfInBounds i true) a' w') a w
theorem AllReadyJ.nil {fuel : Nat} {listed : Array Bool} {a : Act} {w : World} : AllReadyJ P md ops Q S s fuel listed a w [] := fun _ h => by cases h
theorem AllReadyJ.cons {fuel : Nat} {listed : Array Bool} {a : Act} {w : World} {i : Nat} {o : Oper} {rs : List Nat} (ho : ops[i]? = some o)
 (h : ∀ K' : Act → World → Prop, Shut (∀ a w, TillJ S s (listed.setIfInBounds i true) w → (TillJ S s (listed.setIfInBounds i true) w → wpAnyJ P md ops Q S s fuel (listed.setIfInBounds i true) a w) → K' a w) → if Region.wanted o (yielded ops a.tmps) = true then Oper.wp P o a w K' Q else K' (a.put o.dst undef) w)
 (hs : AllReadyJ P md ops Q S s fuel listed a w rs) : AllReadyJ P md ops Q S s fuel listed a w (i :: rs) := fun j hj => by
 rcases List.mem_cons.1 hj with rfl | hj
 · exact wpOp_step ho (fun K' hK => h K' (fun a w hS hW => hK a w ⟨hS, hW hS⟩))
 · exact hs j hj
end
def HonK (ls : List LinkG) (k : Nat) (lo hi : Int) : Prop :=
 ∃ (sd sd2 : Bs) (m : Int), sd.length = 32 ∧ sd2.length = 32 ∧ 0 ≤ m ∧ m < 2 ∧ (linkT ls k).1 = pubG sd 1 ∧ (linkT ls k).2.1.length = 32 ∧
  dansR sd2 0 0 (pubG sd2 0) (-1099511627776) 1099511627776 (sigG sd 1 m.toNat (tGrant ++ pubG sd2 0 ++ spanB (-1099511627776) 1099511627776)) [nextG (ls.take k) (linkT ls k).2.1] lo hi =
   (((sd2, 0, 1), (pubG sd2 0, -1099511627776, 1099511627776, sigG sd 1 m.toNat (tGrant ++ pubG sd2 0 ++ spanB (-1099511627776) 1099511627776))), [(linkT ls k).2.2], 0)
theorem HonK.last {ls : List LinkG} {pk bl y sd sd2 : Bs} {m lo hi : Int} {k : Nat} (hk : ls.length = k) (h1 : sd.length = 32) (h2 : sd2.length = 32) (h3 : 0 ≤ m) (h4 : m < 2) (h5 : pk = pubG sd 1) (h6 : bl.length = 32)
 (h7 : dansR sd2 0 0 (pubG sd2 0) (-1099511627776) 1099511627776 (sigG sd 1 m.toNat (tGrant ++ pubG sd2 0 ++ spanB (-1099511627776) 1099511627776)) [nextG ls bl] lo hi =
  (((sd2, 0, 1), (pubG sd2 0, -1099511627776, 1099511627776, sigG sd 1 m.toNat (tGrant ++ pubG sd2 0 ++ spanB (-1099511627776) 1099511627776))), [y], 0)) : HonK (ls ++ [(pk, bl, y)]) k lo hi := by
 subst hk
 have e1 : linkT (ls ++ [(pk, bl, y)]) ls.length = (pk, bl, y) := by
  unfold linkT
  rw [List.getD_eq_getElem?_getD, List.getElem?_append_right (Nat.le_refl _), Nat.sub_self]; rfl
 have e2 : (ls ++ [(pk, bl, y)]).take ls.length = ls := by rw [List.take_append_of_le_length (Nat.le_refl _), List.take_length]
 unfold HonK
 rw [e1, e2]
 exact ⟨sd, sd2, m, h1, h2, h3, h4, h5, h6, h7⟩
theorem SeesR.cut {w : World} {B size n c a b : Nat} {A : Option Addr} {ss : List Spec} (h : SeesR w B (.slice A n c) size n ss) (hab : a ≤ b) (hb : b ≤ n) :
 SeesR w B (.slice (cutA A c a size) (b - a) (c - a)) size (b - a) ((ss.drop (a * size)).take ((b - a) * size)) := by
 obtain ⟨h0, vs, hs, hv⟩ := h
 have hm : (b - a) * size + a * size ≤ n * size := by
  rw [← Nat.add_mul]; exact Nat.mul_le_mul_right _ (by omega)
 refine ⟨by rw [List.length_take, List.length_drop, h0]; omega, _, hs.cut hab hb, fun k s hk => ?_⟩
 have hkl : k < (b - a) * size := by
  have := (List.getElem?_eq_some_iff.1 hk).1
  rw [List.length_take] at this; omega
 rw [List.getElem?_take, if_pos hkl, List.getElem?_drop] at hk ⊢
 exact hv _ s hk
section
variable {w W : World} {g n c base size : Nat} {T : TypeId} {v : Value} {ss : List Spec}
theorem OwnRF.at_ (h : OwnRF w base T v size n ss) (h0 : 0 < n) : ∃ g c, v = .slice (some ⟨g, 0, none⟩) n c ∧ base ≤ g ∧ g < w.heap.size ∧ n ≤ c ∧ c ≤ maxLen := by
 have hlt := h.own.lt
 obtain ⟨_, vs, h1, _⟩ := h
 rcases h1.2 with ⟨_, hz⟩ | ⟨g, cap, cur, rfl, hb, hg, hc1, hc2, _⟩
 · omega
 · exact ⟨g, cap, rfl, hb, (hlt g rfl).2, hc1, hc2⟩
theorem elt_grown {u : Value} {s : Spec} (h : EltS w v u s) (hg : w.grownBy W v.ownBlock) : EltS W v u s := by
 cases s with
 | val x => exact h
 | byt l => exact ⟨Elt.grown h hg, h.2⟩
theorem OwnRF.put {u : Value} {s : Spec} {j : Nat} (h : OwnRF w base T (.slice (some ⟨g, 0, none⟩) n c) size n ss) (hj : j < n * size) (he : EltS w (.slice (some ⟨g, 0, none⟩) n c) u s) (hf : From base u) :
 OwnRF (w.setCell ⟨g, j, none⟩ u) base T (.slice (some ⟨g, 0, none⟩) n c) size n (ss.set j s) := by
 obtain ⟨h0, vs, h1, h2⟩ := h
 have hg := setCell_grown w g j u
 rcases h1.2 with ⟨e, _⟩ | ⟨g', cap, cur, e, hb, hh, hc1, hc2, hcs, htk⟩
 · cases e
 · injection e with e1 _ e3
   injection e1 with e1
   injection e1 with e1
   subst e1 e3
   have hB : Box w g T cur.toList := hh
   have hB' := hB.set j u
   have hvl : vs.length = n * size := h1.1
   refine ⟨by rw [List.length_set, h0], vs.set j u, ⟨by rw [List.length_set, hvl], .inr ⟨g, c, (cur.toList.set j u).toArray, rfl, hb, hB', hc1, hc2, by simp [hcs], ?_⟩⟩, fun k t hk => ?_⟩
   · rw [← htk]
     simp [List.take_set]
   · by_cases hkj : k = j
     · subst hkj
       rw [List.getElem?_set_self (by omega)] at hk ⊢
       cases hk
       exact ⟨u, rfl, elt_grown he hg, hf⟩
     · rw [List.getElem?_set_ne (fun e => hkj e.symm)] at hk ⊢
       obtain ⟨y, e1, e2, e3⟩ := h2 k t hk
       exact ⟨y, e1, elt_grown e2 hg, e3⟩
theorem OwnRF.frozen (h : OwnRF w base T (.slice (some ⟨g, 0, none⟩) n c) size n ss) (j : Nat) : w.frozen? ⟨g, j, none⟩ = false := by
 obtain ⟨_, vs, h1, _⟩ := h
 rcases h1.2 with ⟨e, _⟩ | ⟨g', cap, cur, e, _, hh, _⟩
 · cases e
 · injection e with e1 _ e3
   injection e1 with e1
   injection e1 with e1
   subst e1
   have hB : Box w g T cur.toList := hh
   exact hB.frozen j
theorem OwnRF.cell {j : Nat} {s : Spec} (h : OwnRF w base T (.slice (some ⟨g, 0, none⟩) n c) size n ss) (h0 : 0 < n) (hj : ss[j]? = some s) : ∃ u, w.cell? ⟨g, j, none⟩ = some u ∧ EltS w (.slice (some ⟨g, 0, none⟩) n c) u s ∧ From base u := by
 obtain ⟨_, vs, h1, h2⟩ := h
 obtain ⟨u, e1, e2, e3⟩ := h2 j s hj
 obtain ⟨b, o, e4, hb, hcell⟩ := (Sees.of_own h1).at_ h0
 injection e4 with e5
 injection e5 with e6 e7
 subst e6 e7
 have := hcell j u e1
 rw [Nat.zero_add] at this
 exact ⟨u, this, e2, e3⟩
end
def LkS (w : World) (v : Value) (W : World) : Prop :=
 ∃ ls : List LinkG, SeesR W W.heap.size v 3 ls.length (linkS ls) ∧ ls.length ≤ 8 ∧ (∀ t ∈ ls, t.1.length ≤ 2048 ∧ t.2.1.length ≤ 2048 ∧ t.2.2.length ≤ 2048) ∧ Below w.heap.size w W
theorem LkS.drew {w W : World} {v : Value} (h : LkS w v W) : LkS w v W.drew := by
 obtain ⟨ls, h1, h2, h3, h4⟩ := h
 exact ⟨ls, (h1.below (bdrew W)).more (bdrew W).size, h2, h3, bgo h4 (bdrew W)⟩
end Go.Proofs.YtgehkgjllhkhoaaGreat

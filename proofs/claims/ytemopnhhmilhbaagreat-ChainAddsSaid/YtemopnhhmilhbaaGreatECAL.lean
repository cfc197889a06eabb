/- Contracts of chains, and the walks of their laws. Conditions: those of each theorem. -/
import Derived.Deep.CutBlock
import Derived.Outline
import Derived.BigQuiet
import Derived.ArgAppend
import Derived.Test.YtemopnhhmilhbaaGreatECAdd
import Derived.Test.YtemopnhhmilhbaaGreatERCAdd
import Derived.Test.YtemopnhhmilhbaaGreatERCSame
import Derived.Test.YtemopnhhmilhbaaGreatE1
import Derived.Test.YtemopnhhmilhbaaGreatD19
namespace Go.Proofs.YtemopnhhmilhbaaGreat
open Go Go.RowKit
set_option linter.unusedVariables false
set_option linter.unusedSimpArgs false
attribute [local go_sem ↓] Go.wp_at_zero Go.wp_at_succ
/-- The beginning of the chain and a copy of its last link in a box. -/
def Ad1 (w : World) (t : LinkG) (V : Value) (v14 v15 : Value) (W : World) : Prop :=
 ∃ (g : Nat) (A1 : Option Addr) (c1 : Nat) (A2 : Option Addr) (c2 : Nat) (A3 : Option Addr) (c3 : Nat), v14 = V ∧ v15 = .pointer (some ⟨g, 0, none⟩) ∧ w.heap.size ≤ g ∧ Box W g 32 [.slice A1 t.1.length c1, .slice A2 t.2.1.length c2, .slice A3 t.2.2.length c3] ∧
  SeesB W W.heap.size (.slice A1 t.1.length c1) t.1 ∧ SeesB W W.heap.size (.slice A2 t.2.1.length c2) t.2.1 ∧ SeesB W W.heap.size (.slice A3 t.2.2.length c3) t.2.2 ∧ Below w.heap.size w W
theorem ad1_new {w w6 : World} {t : LinkG} {V : Value} {A1 A2 A3 : Option Addr} {c1 c2 c3 : Nat} (s1 : SeesB w6 w6.heap.size (.slice A1 t.1.length c1) t.1) (s2 : SeesB w6 w6.heap.size (.slice A2 t.2.1.length c2) t.2.1) (s3 : SeesB w6 w6.heap.size (.slice A3 t.2.2.length c3) t.2.2) (hb : Below w.heap.size w w6) :
 Ad1 w t V V (.pointer (some ⟨w6.heap.size, 0, none⟩)) (w6.alloc (.cells #[.slice A1 t.1.length c1, .slice A2 t.2.1.length c2, .slice A3 t.2.2.length c3] 32)) := by
 have hal := balloc w6 (.cells #[.slice A1 t.1.length c1, .slice A2 t.2.1.length c2, .slice A3 t.2.2.length c3] 32)
 exact ⟨_, _, _, _, _, _, _, rfl, rfl, hb.size, Box.new w6 _ _, seesB_of s1 (Nat.le_refl _) hal, seesB_of s2 (Nat.le_refl _) hal, seesB_of s3 (Nat.le_refl _) hal, bgo hb hal⟩
theorem ad1_set {w w6 : World} {t : LinkG} {V : Value} {A1 A2 A3 : Option Addr} {c1 c2 c3 g : Nat} (x : Box w6 g 32 [.slice none 0 0, .slice none 0 0, .slice none 0 0]) (hg : w.heap.size ≤ g) (s1 : SeesB w6 w6.heap.size (.slice A1 t.1.length c1) t.1) (s2 : SeesB w6 w6.heap.size (.slice A2 t.2.1.length c2) t.2.1) (s3 : SeesB w6 w6.heap.size (.slice A3 t.2.2.length c3) t.2.2) (hb : Below w.heap.size w w6) :
 Ad1 w t V V (.pointer (some ⟨g, 0, none⟩)) (((w6.setCell ⟨g, 0, none⟩ (.slice A1 t.1.length c1)).setCell ⟨g, 1, none⟩ (.slice A2 t.2.1.length c2)).setCell ⟨g, 2, none⟩ (.slice A3 t.2.2.length c3)) :=
 ⟨_, _, _, _, _, _, _, rfl, rfl, hg, box_lset3 x _ _ _, link_sees x _ _ _ s1, link_sees x _ _ _ s2, link_sees x _ _ _ s3, ((hb.setCell (p := ⟨g, 0, none⟩) hg _).setCell (p := ⟨g, 1, none⟩) hg _).setCell (p := ⟨g, 2, none⟩) hg _⟩
/-- What Add is asked about: a chain, and a link in a box. -/
def Ad2 (w : World) (v14 v15 : Value) (W : World) : Prop :=
 ∃ (ls : List LinkG) (t : LinkG) (g : Nat) (A1 : Option Addr) (c1 : Nat) (A2 : Option Addr) (c2 : Nat) (A3 : Option Addr) (c3 : Nat), v15 = .pointer (some ⟨g, 0, none⟩) ∧ Box W g 32 [.slice A1 t.1.length c1, .slice A2 t.2.1.length c2, .slice A3 t.2.2.length c3] ∧
  SeesB W W.heap.size (.slice A1 t.1.length c1) t.1 ∧ SeesB W W.heap.size (.slice A2 t.2.1.length c2) t.2.1 ∧ SeesB W W.heap.size (.slice A3 t.2.2.length c3) t.2.2 ∧ SeesR W W.heap.size v14 3 ls.length (linkS ls) ∧ ls.length ≤ 20 ∧
  (∀ t ∈ ls, t.1.length ≤ 2048 ∧ t.2.1.length ≤ 2048 ∧ t.2.2.length ≤ 2048) ∧ (t.1.length ≤ 2048 ∧ t.2.1.length ≤ 2048 ∧ t.2.2.length ≤ 2048) ∧ Below w.heap.size w W
theorem noB3 (A1 A2 A3 : Option Addr) (n1 n2 n3 c1 c2 c3 : Nat) : NoByte [Value.slice A1 n1 c1, .slice A2 n2 c2, .slice A3 n3 c3] := by
 intro x hx n e
 simp only [List.mem_cons, List.not_mem_nil, or_false] at hx
 rcases hx with rfl | rfl | rfl <;> cases e
theorem run_cut_full {P : Program} (t : TypeId) (ht : P.underlying t = some (.slice (P.elem t))) (size : Nat) (hs : ∀ w, (sizeOf (P.elem t)).run P w = .ok size w) (A : Option Addr) (n c : Nat) (hn : n ≤ c) (w : World) :
 (Instr.slice t (.slice A n c) none (some (.int .i64 (n : Int))) (some (.int .i64 (n : Int)))).run P w = .ok (.slice (cutA A n 0 size) n n) w := by
 rw [run_slice_hm w t A n c ht .i64 .i64 (n : Int) (n : Int) (by omega) (Int.le_refl _) (by omega), hs]
 simp only [Int.toNat_natCast, Nat.sub_zero]
 rfl
theorem nil_links (k : Nat) : linkS (List.replicate (k + 1) (([], [], []) : LinkG)) = linkS (List.replicate k (([], [], []) : LinkG)) ++ [.byt [], .byt [], .byt []] := by
 rw [List.replicate_succ', linkS_append]; rfl
/-- A row behind an append of an empty link. -/
theorem row_grow {w w' : World} {B base n c : Nat} {T : TypeId} {A : Option Addr} {v' : Value} {ss : List Spec} {vs : List Value} (hs : Sees w B (.slice A n c) 3 n vs) (hf : ∀ (k : Nat) (s : Spec), ss[k]? = some s → ∃ u, vs[k]? = some u ∧ FitS w B u s) (h0 : ss.length = n * 3)
 (ho : w'.ownsRow base T 3 v' (n + 1) (vs ++ [.slice none 0 0, .slice none 0 0, .slice none 0 0])) (hb : Below B w w') (hB : B ≤ w'.heap.size) : SeesR w' w'.heap.size v' 3 (n + 1) (ss ++ [.byt [], .byt [], .byt []]) := by
 have hl : vs.length = n * 3 := hs.len
 refine ⟨by simp [h0]; omega, _, Sees.of_own ho, fun k s hk => ?_⟩
 by_cases hkl : k < ss.length
 · rw [List.getElem?_append_left hkl] at hk
   obtain ⟨u, e1, e2⟩ := hf k s hk
   exact ⟨u, by rw [List.getElem?_append_left (by omega)]; exact e1, (e2.below hb).more hB⟩
 · rw [List.getElem?_append_right (by omega)] at hk
   rw [List.getElem?_append_right (by omega), hl, ← h0]
   match k - ss.length, hk with
   | 0, hk => cases hk; exact ⟨_, rfl, SeesB.nil _ _⟩
   | 1, hk => cases hk; exact ⟨_, rfl, SeesB.nil _ _⟩
   | 2, hk => cases hk; exact ⟨_, rfl, SeesB.nil _ _⟩
   | j + 3, hk => simp at hk
theorem nils_new (w : World) (T : TypeId) : ∀ (j : Nat) (u : Value), [Value.slice none 0 0, .slice none 0 0, .slice none 0 0][j]? = some u → (w.alloc (.cells #[.slice none 0 0, .slice none 0 0, .slice none 0 0] T)).cell? ((⟨w.heap.size, 0, none⟩ : Addr).add j) = some u := by
 intro j u h
 have hx := Box.new w T [.slice none 0 0, .slice none 0 0, .slice none 0 0]
 match j, h with
 | 0, h => cases h; exact hx.cell 0
 | 1, h => cases h; exact hx.cell 1
 | 2, h => cases h; exact hx.cell 2
theorem old_cells {w : World} {B n c : Nat} {A : Option Addr} {vs : List Value} (h : Sees w B (.slice A n c) 3 n vs) (hB : B ≤ w.heap.size) (o : Obj) : ∀ b, cutA A n 0 3 = some b → ∀ (j : Nat) (u : Value), vs[j]? = some u → (w.alloc o).cell? (b.add j) = some u := by
 intro b hb j u hj
 have hn : 0 < n := by
  have := (List.getElem?_eq_some_iff.1 hj).1
  rw [h.len] at this; omega
 obtain ⟨b', o', e, hlt, hc⟩ := h.at_ hn
 subst e
 unfold cutA at hb
 rw [if_neg (by omega)] at hb
 cases hb
 have h1 := hc j u hj
 have h2 : (((⟨b', o', none⟩ : Addr).add (0 * 3)).add j) = ⟨b', o' + j, none⟩ := by simp [Addr.add]
 rw [h2]
 exact ((balloc w o).cell (p := ⟨b', o' + j, none⟩) (show b' < w.heap.size by omega)).trans h1
theorem none_cut {w : World} {B n c : Nat} {A : Option Addr} {vs : List Value} (h : Sees w B (.slice A n c) 3 n vs) (e : cutA A n 0 3 = none) : n = 0 ∧ n = 0 := by
 rcases Nat.eq_zero_or_pos n with hz | hz
 · exact ⟨hz, hz⟩
 · obtain ⟨b', o', e', -, -⟩ := h.at_ hz
   subst e'
   unfold cutA at e
   rw [if_neg (by omega)] at e
   cases e
/-- One field of the link in its box is changed. -/
theorem ad2_set {w1 w2 w6 : World} {V : Value} {ls1 : List LinkG} {t1 t2 t3 l' : Bs} {g5 : Nat} {D1 D2 D3 A6 : Option Addr} {e1 e2 e3 c6 : Nat} (hb2 : Below w1.heap.size w1 w2) (hrow : SeesR w2 w2.heap.size V 3 ls1.length (linkS ls1)) (hl : ls1.length ≤ 20)
 (he : ∀ t ∈ ls1, t.1.length ≤ 2048 ∧ t.2.1.length ≤ 2048 ∧ t.2.2.length ≤ 2048) (hb6 : Below w2.heap.size w2 w6) (hg5 : w2.heap.size ≤ g5) (xb : Box w6 g5 32 [.slice D1 t1.length e1, .slice D2 t2.length e2, .slice D3 t3.length e3])
 (s1 : SeesB w6 w6.heap.size (.slice D1 t1.length e1) t1) (s2 : SeesB w6 w6.heap.size (.slice D2 t2.length e2) t2) (s3 : SeesB w6 w6.heap.size (.slice D3 t3.length e3) t3) (ht : t1.length ≤ 2048 ∧ t2.length ≤ 2048 ∧ t3.length ≤ 2048) (s6 : SeesB w6 w6.heap.size (.slice A6 l'.length c6) l') (h6 : l'.length ≤ 2048) :
 Ad2 w1 V (.pointer (some ⟨g5, 0, none⟩)) (w6.setCell ⟨g5, 2, none⟩ (.slice A6 l'.length c6)) ∧ Ad2 w1 V (.pointer (some ⟨g5, 0, none⟩)) (w6.setCell ⟨g5, 1, none⟩ (.slice A6 l'.length c6)) := by
 have nz := noB3 D1 D2 D3 t1.length t2.length t3.length e1 e2 e3
 have pk : ∀ (j : Nat) {u : Value} {l : Bs}, SeesB w6 w6.heap.size u l → SeesB (w6.setCell ⟨g5, j, none⟩ (.slice A6 l'.length c6)) (w6.setCell ⟨g5, j, none⟩ (.slice A6 l'.length c6)).heap.size u l := fun j u l h => SeesB.more (SeesB.poke h xb nz) (by simp [World.setCell])
 have hbw : ∀ j, Below w2.heap.size w2 (w6.setCell ⟨g5, j, none⟩ (.slice A6 l'.length c6)) := fun j => hb6.setCell (p := ⟨g5, j, none⟩) hg5 _
 refine ⟨⟨ls1, (t1, t2, l'), g5, _, _, _, _, _, _, rfl, ?_, pk 2 s1, pk 2 s2, pk 2 s6, (hrow.below (hbw 2)).more (hbw 2).size, hl, he, ⟨ht.1, ht.2.1, h6⟩, bgo hb2 (hbw 2)⟩,
  ⟨ls1, (t1, l', t3), g5, _, _, _, _, _, _, rfl, ?_, pk 1 s1, pk 1 s6, pk 1 s3, (hrow.below (hbw 1)).more (hbw 1).size, hl, he, ⟨ht.1, h6, ht.2.2⟩, bgo hb2 (hbw 1)⟩⟩
 · have := xb.set 2 (.slice A6 l'.length c6)
   simpa only [List.set_cons_zero, List.set_cons_succ] using this
 · have := xb.set 1 (.slice A6 l'.length c6)
   simpa only [List.set_cons_zero, List.set_cons_succ] using this
set_option maxRecDepth 100000 in
set_option maxHeartbeats 1000000 in
theorem cadds_law (v : Int) (wf0 : (Lit.int .i64 v).wf = true) (B : Nat) (u : Value) (l : List Int) (w : World) (s : SeesT w B u l) (hB : B ≤ w.heap.size) (at_ : Int) (wf1 : (Lit.int .i64 at_).wf = true) (by_ : Int) (wf2 : (Lit.int .i64 by_).wf = true) (how : Int) (wf3 : (Lit.int .i64 how).wf = true) :
 Calls Tryz.prog 5 #[.int .i64 v, u, .int .i64 at_, .int .i64 by_, .int .i64 how] w fun e w' => e = .returned (.bool true) ∧ Below w.heap.size w w' := by
 obtain ⟨Ar, cr, rfl, -, -⟩ := s.mk_
 clear wf0 wf1 wf2 wf3
 have hkn := Lib.hid (fun W => cknown_any W)
 have hsp := Lib.hid (spans_any _ l w (s.more hB))
 have hwi := Lib.hid (fun (v m : Int) (h1 : 1 ≤ m) (h2 : m ≤ 4294967296) W => kwithin_any v m h1 h2 W)
 have hfl := Lib.hid (fun u (l : Bs) W (hu : SeesB W W.heap.size u l) (hl : l.length ≤ 1048576) => kflip_any u l at_ by_ W hu hl)
 obtain ⟨q, hq, hq2⟩ := kmod_nat how 6 (by omega)
 have hw6 := fun W => hwi.out how 6 (by omega) (by omega) W
 rw [hq] at hw6
 replace hw6 := Lib.hid hw6
 replace hq2 := Lib.hid hq2
 clear hq s hB hwi
 go_enter Tryz.func5, Tryz.ntmps5
 go_wp2_with fail
 refine hsp.out.mono ?_
 rintro e w1 ⟨v1, v2, rfl, r1, r2, hb1⟩
 have hN := spN_bounds l
 generalize spN l = N at *
 have hch := kchain_any v N (by omega) (whT l) (spT l) (whF l N) (spF l N) (fun k hk => whF_get l N k hk) (fun k hk => spF_get l N k hk) (fun k => by have := whT_bounds l k; omega) (fun k _ => ⟨small_vS (spT_bounds l k), small_inS (spT_bounds l k)⟩) _ _ w1 (Sees.of_own r2) (Sees.of_own r1)
 obtain ⟨A1, c1, rfl, -, -⟩ := (Sees.of_own r1).mk_
 obtain ⟨A2, c2, rfl, -, -⟩ := (Sees.of_own r2).mk_
 replace hch := Lib.hid hch
 clear hsp r1 r2
 dsimp only
 go_wp2_with fail
 refine hch.out.mono ?_
 rintro e w2 ⟨v3, ls, rfl, o3, hlen, hel, -, hb2⟩
 have hbw := Lib.hid (bgo hb1 hb2)
 obtain ⟨g, c3, rfl, hgb, hgl, hc3, hc4⟩ := o3.at_ (by omega)
 have hel' : ∀ t ∈ ls, t.1.length ≤ 2048 ∧ t.2.1.length ≤ 2048 ∧ t.2.2.length ≤ 2048 := fun t ht => by have := hel t ht; omega
 obtain ⟨m, hm⟩ : ∃ m, ls.length = m + 1 := ⟨ls.length - 1, by omega⟩
 have hmi : m < ls.length := by omega
 have hN3 : m ≤ 2 := by omega
 obtain ⟨A0, d0, A1', d1, A2', d2, z0, z1, z2, e0, e1, e2⟩ := own_link o3 m hmi
 have htl := hel' _ (linkT_mem ls m hmi)
 have htl32 := hel _ (linkT_mem ls m hmi)
 have hcut := links_cut o3.own.sees rfl (a := 0) (b := m) (Nat.zero_le _) (by omega)
 rw [List.drop_zero, Nat.sub_zero, Nat.sub_zero] at hcut
 have hrc := run_cut_to (P := Tryz.prog) 26 Tryz.underlying26 3 link_size (some ⟨g, 0, none⟩) ls.length c3 .i64 (m : Int) (by omega) (by omega)
 rw [Int.toNat_natCast, Nat.sub_zero, Nat.sub_zero] at hrc
 generalize cutA (some ⟨g, 0, none⟩) c3 0 3 = A9 at *
 have i1 : (ls.length : Int) - 1 = (m : Int) := by omega
 have i4 : IntKind.i64.wrap (m : Int) = (m : Int) := by rw [IntKind.wrap_i64]; omega
 have i2 : (m : Int) < (ls.length : Int) := by omega
 have j0 : (0 : Int) ≤ (m : Int) := by omega
 have i3 : (m : Int) ≤ (c3 : Int) := by omega
 have hcp := fun W (hW : Below w2.heap.size w2 W) => rlcopy_any (linkT ls m) _ _ _ W (seesB_of e0.1.1 (Nat.le_refl _) hW) (seesB_of e1.1.1 (Nat.le_refl _) hW) (seesB_of e2.1.1 (Nat.le_refl _) hW) (by omega) (by omega) (by omega)
 have htk : (ls.take m).length = m := by rw [List.length_take]; omega
 have htk2 : ∀ t ∈ ls.take m, t.1.length ≤ 2048 ∧ t.2.1.length ≤ 2048 ∧ t.2.2.length ≤ 2048 := fun t ht => hel' t (List.mem_of_mem_take ht)
 generalize linkT ls m = t at *
 generalize ls.take m = ls1 at *
 obtain ⟨t1, t2, t3⟩ := t
 dsimp only at *
 have K : Hid (∀ W, Below w2.heap.size w2 W → W.cell? ⟨g, m * 3, none⟩ = some (.slice A0 t1.length d0) ∧ W.cell? ⟨g, m * 3 + 1, none⟩ = some (.slice A1' t2.length d1) ∧ W.cell? ⟨g, m * 3 + 2, none⟩ = some (.slice A2' t3.length d2)) := fun W hW => ⟨(hW.cell (p := ⟨g, m * 3, none⟩) hgl).trans z0, (hW.cell (p := ⟨g, m * 3 + 1, none⟩) hgl).trans z1, (hW.cell (p := ⟨g, m * 3 + 2, none⟩) hgl).trans z2⟩
 have K3 : Hid (∀ W (p0 p1 p2 : Value), Below w2.heap.size w2 W → (((W.setCell ⟨w2.heap.size, 0, none⟩ p0).setCell ⟨w2.heap.size, 1, none⟩ p1).setCell ⟨w2.heap.size, 2, none⟩ p2).cell? ⟨g, m * 3, none⟩ = some (.slice A0 t1.length d0) ∧ (((W.setCell ⟨w2.heap.size, 0, none⟩ p0).setCell ⟨w2.heap.size, 1, none⟩ p1).setCell ⟨w2.heap.size, 2, none⟩ p2).cell? ⟨g, m * 3 + 1, none⟩ = some (.slice A1' t2.length d1) ∧ (((W.setCell ⟨w2.heap.size, 0, none⟩ p0).setCell ⟨w2.heap.size, 1, none⟩ p1).setCell ⟨w2.heap.size, 2, none⟩ p2).cell? ⟨g, m * 3 + 2, none⟩ = some (.slice A2' t3.length d2)) := fun W p0 p1 p2 hW => K.out _ (below_set3 hW (Nat.le_refl _) _ _ _)
 have hk1 := Lib.hid hcp
 have hk2 := Lib.hid (hcp (w2.alloc (.cells #[.slice none 0 0, .slice none 0 0, .slice none 0 0] 32)).drew (bgo (balloc _ _) (bdrew _)))
 have hk3 := Lib.hid (hcp (w2.alloc (.cells #[.slice none 0 0, .slice none 0 0, .slice none 0 0] 32)) (balloc _ _))
 have hrow0 := Lib.hid hcut
 clear hcut
 replace hel := Lib.hid hel
 replace hel' := Lib.hid hel'
 replace hlen := Lib.hid hlen
 replace hm := Lib.hid hm
 replace htl := Lib.hid htl
 replace htl32 := Lib.hid htl32
 replace htk := Lib.hid htk
 replace htk2 := Lib.hid htk2
 replace o3 := Lib.hid o3
 clear hcp z0 z1 z2 e0 e1 e2 hch
 go_wp2_with fail
 go_cut [14, 15] (fun v14 v15 W => Ad1 w2 (t1, t2, t3) (.slice A9 m c3) v14 v15 W)
 case first =>
  go_region_held3 (fun W' : World => W'.cell? ⟨g, m * 3, none⟩ = some (.slice A0 t1.length d0) ∧ W'.cell? ⟨g, m * 3 + 1, none⟩ = some (.slice A1' t2.length d1) ∧ W'.cell? ⟨g, m * 3 + 2, none⟩ = some (.slice A2' t3.length d2))
   (first | (with_reducible exact K3.out _ _ _ _ (by (repeat (first | exact Below.refl _ _ | (refine bgo ?_ (balloc _ _)) | (refine bgo ?_ (bdrew _)) | (refine bgo ?_ (by assumption)))))) | (with_reducible exact K.out _ (by (repeat (first | exact Below.refl _ _ | (refine bgo ?_ (balloc _ _)) | (refine bgo ?_ (bdrew _)) | (refine bgo ?_ (by assumption)))))) | (go_keep; done))
   (first
    | (go_at_call 25; (with_reducible refine hk2.out.mono ?_); rintro e w6 ⟨p1, p2, p3, rfl, s1, s2, s3, -, -, -, hb6⟩
       obtain ⟨B1, e1, rfl, -, -⟩ := s1.mk_
       obtain ⟨B2, e2, rfl, -, -⟩ := s2.mk_
       obtain ⟨B3, e3, rfl, -, -⟩ := s3.mk_
       have bz := ((Box.new w2 32 [.slice none 0 0, .slice none 0 0, .slice none 0 0]).below (bdrew _)).below hb6
       obtain ⟨y0, y1, y2, f0, f1, f2'⟩ := box3_cells bz)
    | (go_at_call 25; (with_reducible refine hk3.out.mono ?_); rintro e w6 ⟨p1, p2, p3, rfl, s1, s2, s3, -, -, -, hb6⟩
       obtain ⟨B1, e1, rfl, -, -⟩ := s1.mk_
       obtain ⟨B2, e2, rfl, -, -⟩ := s2.mk_
       obtain ⟨B3, e3, rfl, -, -⟩ := s3.mk_
       have bz := (Box.new w2 32 [.slice none 0 0, .slice none 0 0, .slice none 0 0]).below hb6
       obtain ⟨y0, y1, y2, f0, f1, f2'⟩ := box3_cells bz)
    | (go_at_call 25; (with_reducible refine (hk1.out _ (by (repeat (first | exact Below.refl _ _ | (refine bgo ?_ (balloc _ _)) | (refine bgo ?_ (bdrew _)) | (refine bgo ?_ (by assumption)))))).mono ?_); rintro e w6 ⟨p1, p2, p3, rfl, s1, s2, s3, -, -, -, hb6⟩
       obtain ⟨B1, e1, rfl, -, -⟩ := s1.mk_
       obtain ⟨B2, e2, rfl, -, -⟩ := s2.mk_
       obtain ⟨B3, e3, rfl, -, -⟩ := s3.mk_))
  all_goals
   go_wp2_with fail
   go_meet
   first
    | with_reducible exact ad1_new s1 s2 s3 (by (repeat (first | exact Below.refl _ _ | (refine bgo ?_ (balloc _ _)) | (refine bgo ?_ (bdrew _)) | (refine bgo ?_ (by assumption)))))
    | with_reducible exact ad1_set bz (Nat.le_refl _) s1 s2 s3 (by (repeat (first | exact Below.refl _ _ | (refine bgo ?_ (balloc _ _)) | (refine bgo ?_ (bdrew _)) | (refine bgo ?_ (by assumption)))))
 case rest =>
 obtain ⟨g5, D1, e1, D2, e2, D3, e3, rfl, rfl, hg5, xb, s1, s2, s3, hb5⟩ := hcut
 obtain ⟨W2, rfl⟩ : ∃ W2 : World, W2 = wc := ⟨_, rfl⟩
 dsimp only at xb s1 s2 s3
 obtain rfl := htk.out
 have hw6' := hw6
 clear K K3 hk1 hk2 hk3 hel hel' o3 htk
 go_wp2_with fail
 refine (hw6.out _).mono ?_
 rintro e w3 ⟨rfl, hw⟩
 obtain rfl := hw.symm
 clear hw6 hw6'
 dsimp only
 go_upto_block 0 with (fail)
 go_cut [14, 15] (fun v14 v15 W => Ad2 w1 v14 v15 W)
 case first =>
  have h7 := hq2.out
  obtain rfl | rfl | rfl | rfl | rfl | rfl : q = 0 ∨ q = 1 ∨ q = 2 ∨ q = 3 ∨ q = 4 ∨ q = 5 := by omega
  · have hf := Lib.hid (hfl.out _ _ W2 s3 (by have := htl.out; omega))
    obtain ⟨k0, k1, k2, f0, f1, f2⟩ := box3_cells xb
    go_wp2_with fail
    refine hf.out.mono ?_
    rintro e w6 ⟨l', hl', v6, rfl, o6, hb6⟩
    obtain ⟨A6, c6, rfl, -, -⟩ := o6.sees.mk_
    have xb6 := xb.below hb6
    obtain ⟨p0, p1, p2, q0, q1, q2⟩ := box3_cells xb6
    have hdone := Lib.hid (ad2_set hb2 hrow0.out (by omega) htk2.out (bgo hb5 hb6) hg5 xb6 (seesB_of s1 (Nat.le_refl _) hb6) (seesB_of s2 (Nat.le_refl _) hb6) (seesB_of s3 (Nat.le_refl _) hb6) htl.out o6.sees (by have := htl.out; omega)).1
    replace hl' := Lib.hid hl'
    clear k0 k1 k2 f0 f1 f2
    dsimp only
    go_wp2_with fail
    go_meet
    exact hdone.out
  · have hf := Lib.hid (hfl.out _ _ W2 s2 (by have := htl.out; omega))
    obtain ⟨k0, k1, k2, f0, f1, f2⟩ := box3_cells xb
    go_wp2_with fail
    refine hf.out.mono ?_
    rintro e w6 ⟨l', hl', v6, rfl, o6, hb6⟩
    obtain ⟨A6, c6, rfl, -, -⟩ := o6.sees.mk_
    have xb6 := xb.below hb6
    obtain ⟨p0, p1, p2, q0, q1, q2⟩ := box3_cells xb6
    have hdone := Lib.hid (ad2_set hb2 hrow0.out (by omega) htk2.out (bgo hb5 hb6) hg5 xb6 (seesB_of s1 (Nat.le_refl _) hb6) (seesB_of s2 (Nat.le_refl _) hb6) (seesB_of s3 (Nat.le_refl _) hb6) htl.out o6.sees (by have := htl.out; omega)).2
    replace hl' := Lib.hid hl'
    clear k0 k1 k2 f0 f1 f2
    dsimp only
    go_wp2_with fail
    go_meet
    exact hdone.out
  · have hdone : Hid (Ad2 w1 (.slice none 0 0) (.pointer (some ⟨g5, 0, none⟩)) W2) := ⟨[], (t1, t2, t3), g5, _, _, _, _, _, _, rfl, xb, s1, s2, s3, SeesR.nil _ _ _, by simp, fun t ht => by simp at ht, htl.out, bgo hb2 hb5⟩
    go_wp2_with fail
    go_meet
    exact hdone.out
  · obtain ⟨k0, k1, k2, f0, f1, f2⟩ := box3_cells xb
    have hl32 := htl32.out.2.1
    obtain ⟨D2', e2', eD, hde, -⟩ := s2.mk_
    injection eD with eD1 eD2 eD3
    subst eD1 eD3
    have hrc3 := run_cut_to (P := Tryz.prog) 29 Tryz.underlying29 1 byte_size D2 t2.length e2 .i64 31 (by omega) (by omega)
    rw [show (31 : Int).toNat - 0 = 31 from rfl, Nat.sub_zero] at hrc3
    have s7 := SeesB.cut (a := 0) (b := 31) s2 (by omega) (by omega)
    rw [List.drop_zero, Nat.sub_zero, Nat.sub_zero] at s7
    have hl7 : (t2.take 31).length = 31 := by rw [List.length_take]; omega
    have hdone := (ad2_set (l' := t2.take 31) hb2 hrow0.out (by omega) htk2.out hb5 hg5 xb s1 s2 s3 htl.out (by rw [hl7]; exact s7) (by omega)).2
    rw [hl7] at hdone
    replace hdone := Lib.hid hdone
    replace hl32 := Lib.hid hl32
    generalize cutA D2 e2 0 1 = A7 at *
    have i31 : (31 : Int) ≤ (e2 : Int) := by have := hl32.out; omega
    replace hl7 := Lib.hid hl7
    clear s7
    go_wp2_with fail
    go_meet
    exact hdone.out
  · have hE := htk2.out
    obtain ⟨ti, hti, htz, hts, htb⟩ := info_parts link_infoC
    replace hti := Lib.hid hti
    replace htz := Lib.hid htz
    replace hts := Lib.hid hts
    replace htb := Lib.hid htb
    replace hE := Lib.hid hE
    have hrowW := Lib.hid ((hrow0.out.below hb5).more hb5.size)
    go_wp2_with fail
    go_loopw [14, 16] (fun r t wr => ∃ k : Nat, k ≤ 9 ∧ t = .int .i64 k ∧ Hid (SeesR wr wr.heap.size r 3 (ls1.length + k) (linkS ls1 ++ linkS (List.replicate k ([], [], [])))) ∧ Hid (Below W2.heap.size W2 wr)) (fun _ t _ => 9 - (intOf t).toNat)
    case atStart => exact ⟨0, by omega, rfl, by show SeesR _ _ _ _ _ _; simpa [linkS] using hrowW.out, Below.refl _ _⟩
    case round =>
     obtain ⟨k, hk, rfl, hr, hb⟩ := hrel
     obtain ⟨Ao, co, rfl, hco, -⟩ := hr.out.mk_
     by_cases hlt : k < 9
     · have i0 : (k : Int) < 9 := by omega
       obtain ⟨h0, vs, hs, hf⟩ := hr.out
       have hrc4 := run_cut_full (P := Tryz.prog) 26 Tryz.underlying26 3 link_size Ao (ls1.length + k) co hco
       have hno := none_cut hs
       have hoc := old_cells hs (Nat.le_refl _) (.cells #[.slice none 0 0, .slice none 0 0, .slice none 0 0] 32)
       generalize hnn : ls1.length + k = nn at *
       generalize cutA Ao nn 0 3 = Ac at *
       have hal := balloc wr (.cells #[.slice none 0 0, .slice none 0 0, .slice none 0 0] 32)
       have hn12 : Hid (nn ≤ 12) := by show _ ≤ _; omega
       have hvl := hs.len
       replace hnn := Lib.hid hnn
       replace hno := Lib.hid hno
       replace hoc := Lib.hid hoc
       replace hs := Lib.hid hs
       replace hf := Lib.hid hf
       replace hvl := Lib.hid hvl
       replace hal := Lib.hid hal
       replace h0 := Lib.hid h0
       clear hr
       go_upto_region 17 with (fail)
       iterate 25 (first | go_values | go_guarded | go_step | go_upon | go_back)
       refine wpList_append_grows _ rfl (.tmp 81) (.tmp 83) 26 rfl 32 ti (.agg #[.slice none 0 0, .slice none 0 0, .slice none 0 0]) 3 72 Tryz.underlying26 hti.out htz.out hts.out htb.out rfl (by decide) Ac nn nn vs rfl hno.out hvl.out hoc.out ⟨wr.heap.size, 0, none⟩ 1 1 [.slice none 0 0, .slice none 0 0, .slice none 0 0] rfl rfl (nils_new _ _) (by simp [Value.oneCell']) (by omega) (by have := hn12.out; unfold maxLen; omega) (by have := hn12.out; omega) ?_
       intro v' w7 hown hgrow
       obtain ⟨g', cap', rfl⟩ := ownsRow_succ hown
       have hb7 : Below wr.heap.size wr w7 := bgo hal.out ⟨hgrow.os, hgrow.tape, hgrow.output, hgrow.size, fun k hk => hgrow.block k hk (by simp)⟩
       have hrg := row_grow hs.out hf.out h0.out hown hb7 hb7.size
       go_wp2_with fail
       go_roundw
       case rel => exact ⟨k + 1, by omega, by go_num, by show SeesR _ _ _ _ _ _; rw [nil_links, ← List.append_assoc, show ls1.length + (k + 1) = nn + 1 by have := hnn.out; omega]; exact hrg, bgo hb.out hb7⟩
       case measure => simp [intOf]; omega
     · obtain rfl : k = 9 := by omega
       have hdone : Hid (Ad2 w1 (.slice Ao (ls1.length + 9) co) (.pointer (some ⟨g5, 0, none⟩)) wr) := by
        have hr2 := hr.out
        rw [← linkS_append] at hr2
        have hl9 : (ls1 ++ List.replicate 9 (([], [], []) : LinkG)).length = ls1.length + 9 := by simp
        refine ⟨ls1 ++ List.replicate 9 ([], [], []), (t1, t2, t3), g5, _, _, _, _, _, _, rfl, xb.below hb.out, seesB_of s1 (Nat.le_refl _) hb.out, seesB_of s2 (Nat.le_refl _) hb.out, seesB_of s3 (Nat.le_refl _) hb.out, by rw [hl9]; exact hr2, by omega, fun t ht => ?_, htl.out, bgo (bgo hb2 hb5) hb.out⟩
        rcases List.mem_append.1 ht with h | h
        · exact hE.out t h
        · obtain rfl := List.eq_of_mem_replicate h
          simp
       have i0 : ¬ ((9 : Nat) : Int) < 9 := by omega
       clear hr
       go_wp2_with fail
       go_meet
       exact hdone.out
  · have hdone : Hid (Ad2 w1 (.slice A9 ls1.length c3) (.pointer (some ⟨g5, 0, none⟩)) W2) := ⟨ls1, (t1, t2, t3), g5, _, _, _, _, _, _, rfl, xb, s1, s2, s3, (hrow0.out.below hb5).more hb5.size, by omega, htk2.out, htl.out, bgo hb2 hb5⟩
    go_wp2_with fail
    go_meet
    exact hdone.out
 case rest =>
 clear hrow0 htk2 hg5 xb s1 s2 s3 hb5 htl htl32
 obtain ⟨lz, t, g6, D1, e1, D2, e2, D3, e3, rfl, xb, s1, s2, s3, hrow, hlz, hez, htz, hb5⟩ := hcut
 obtain ⟨W3, rfl⟩ : ∃ W3 : World, W3 = wc := ⟨_, rfl⟩
 obtain ⟨A9, c9, rfl, -, -⟩ := hrow.mk_
 have hv1 := fun W (hW : Below W3.heap.size W3 W) => cadd_any _ _ _ _ lz t W ((hrow.below hW).more hW.size) (seesB_of s1 (Nat.le_refl _) hW) (seesB_of s2 (Nat.le_refl _) hW) (seesB_of s3 (Nat.le_refl _) hW) (by omega) (fun x hx => by have := hez x hx; omega) (by omega)
 have hv2 := fun W (hW : Below W3.heap.size W3 W) => rcadd_any _ _ _ _ lz t W ((hrow.below hW).more hW.size) (seesB_of s1 (Nat.le_refl _) hW) (seesB_of s2 (Nat.le_refl _) hW) (seesB_of s3 (Nat.le_refl _) hW) (by omega) (fun x hx => by have := hez x hx; omega) (by omega)
 have hLn : (addL lz t).length ≤ 30 := by unfold addL; split <;> simp; omega
 unfold AddP at hv1 hv2
 generalize addC lz t = C at *
 generalize (addV lz t).1 = lo at *
 generalize (addV lz t).2 = hi at *
 generalize addL lz t = L at *
 generalize t.1.length = n1 at *
 generalize t.2.1.length = n2 at *
 generalize t.2.2.length = n3 at *
 have X0 := Lib.hid (fun W (hW : Below W3.heap.size W3 W) => xb.below hW)
 obtain ⟨k0, k1, k2, -, -, -⟩ := box3_cells xb
 replace hv1 := Lib.hid (hv1 _ (Below.refl _ _))
 replace hv2 := Lib.hid hv2
 replace hb5 := Lib.hid (bgo hb1 hb5)
 replace hLn := Lib.hid hLn
 clear xb s1 s2 s3 hrow hez htz hlz hfl hb2 hbw hN hgb hgl hc3 hc4 hN3 hm hlen i1 i2 i3 i4 j0 hb1 hq2 hrc hmi
 go_wp2_with fail
 refine hv1.out.mono ?_
 rintro e w4 ⟨v4, rfl, p4, hb4⟩
 obtain ⟨A4, c4, rfl, -, -⟩ := p4.mk_
 have hal := balloc w4 (.cells #[.int .i64 lo, .int .i64 hi] 40)
 have y1 := Box.new w4 40 [.int .i64 lo, .int .i64 hi]
 change Box (w4.alloc (.cells #[.int .i64 lo, .int .i64 hi] 40)) _ _ _ at y1
 have hb6 := bgo hb4 hal
 obtain ⟨q0, q1, q2, -, -, -⟩ := box3_cells (X0.out _ hb6)
 replace p4 := Lib.hid ((p4.below hal).more hal.size)
 have h2 := Lib.hid (hv2.out _ hb6)
 replace hb5 := Lib.hid (bgo hb5.out hb6)
 clear k0 k1 k2 hv1 hv2 hb4 hal hb6 X0
 dsimp only
 go_upto_region 19 with (fail)
 generalize w4.alloc (.cells #[.int .i64 lo, .int .i64 hi] 40) = W4 at *
 generalize w4.heap.size = g7 at *
 go_wp2_with fail
 refine h2.out.mono ?_
 rintro e w5 ⟨v5, rfl, p5, hb5'⟩
 obtain ⟨A5, c5, rfl, -, -⟩ := p5.mk_
 have hal := balloc w5 (.cells #[.int .i64 lo, .int .i64 hi] 40)
 have y2 := Box.new w5 40 [.int .i64 lo, .int .i64 hi]
 change Box (w5.alloc (.cells #[.int .i64 lo, .int .i64 hi] 40)) _ _ _ at y2
 have hb6 := bgo hb5' hal
 replace y1 := y1.below hb6
 replace p4 := Lib.hid ((p4.out.below hb6).more hb6.size)
 replace p5 := Lib.hid ((p5.below hal).more hal.size)
 replace hb5 := Lib.hid (bgo hb5.out hb6)
 clear q0 q1 q2 h2 hb5' hal hb6
 dsimp only
 go_upto_region 20 with (fail)
 generalize w5.alloc (.cells #[.int .i64 lo, .int .i64 hi] 40) = W5 at *
 generalize w5.heap.size = g8 at *
 go_wp2_with fail
 refine (hkn.out _).mono ?_
 rintro e w7 ⟨rfl, hb7⟩
 have h8 := Lib.hid (rcsame_eq _ _ L w7 ((p4.out.below hb7).more hb7.size) ((p5.out.below hb7).more hb7.size) (by have := hLn.out; omega))
 replace y1 := y1.below hb7
 replace y2 := y2.below hb7
 replace hb5 := Lib.hid (bgo hb5.out hb7)
 clear p4 p5 hb7
 dsimp only
 go_wp2_with fail
 refine h8.out.mono ?_
 rintro e w8 ⟨rfl, hb8⟩
 obtain ⟨m1, n1'⟩ := boxT2 (y1.below hb8)
 obtain ⟨m2, n2'⟩ := boxT2 (y2.below hb8)
 have hb9 := Lib.hid (bgo hb5.out hb8)
 clear y1 y2 hb8 hb5
 dsimp only
 go_wp2_with fail
 go_ret
 exact ⟨rfl, hb9.out⟩
end Go.Proofs.YtemopnhhmilhbaaGreat

/- What a law leans on beyond the base: contracts, plain functions, walks. Conditions: those of each theorem. -/
import Derived.Test.YtjgepckncogdaaaGreatQSpansT
import Derived.Test.YtjgepckncogdaaaGreatQCtR
import Derived.Test.YtjgepckncogdaaaGreatQCtKS
import Derived.Test.YtjgepckncogdaaaGreatQHonK
import Derived.Test.YtjgepckncogdaaaGreatTC1
set_option linter.unusedVariables false
set_option linter.unusedSimpArgs false
namespace Go.Proofs.YtjgepckncogdaaaGreat
open Go Go.RowKit
set_option linter.unusedVariables false
set_option linter.unusedSimpArgs false
attribute [local go_sem ↓] Go.wp_at_zero Go.wp_at_succ
def seedC (v : Int) : Nat → Bs
 | 0 => randK (wrap64 (wrap64 (v + 300) + 100)) 32
 | k + 1 => randK (wrap64 (wrap64 (v + 400 + (k : Int)) + 100)) 32
theorem seedC_len (v : Int) (k : Nat) : (seedC v k).length = 32 := by
 cases k with
 | zero => exact randK_len _ 32 (by omega)
 | succ k => exact randK_len _ 32 (by omega)
def nameC (k : Nat) : Bs := [97, UInt8.ofNat (48 + k)]
def honC (v : Int) (ws : List Sp) (k : Nat) : CertG :=
 (nameC k, keyG (seedC v (k + 1)) 0, (ws.getD k (0, 0)).1, (ws.getD k (0, 0)).2, sigG (seedC v k) 0 0 (ctextB (nameC k) (keyG (seedC v (k + 1)) 0) (ws.getD k (0, 0)).1 (ws.getD k (0, 0)).2))
def honL (v : Int) (ws : List Sp) (n : Nat) : List CertG := (List.range n).map (honC v ws)
theorem honL_next (v : Int) (ws : List Sp) (n : Nat) : honL v ws (n + 1) = honL v ws n ++ honC v ws n :: [] := by
 rw [honL, List.range_succ, List.map_append]; rfl
theorem honL_len (v : Int) (ws : List Sp) (n : Nat) : (honL v ws n).length = n := by simp [honL]
theorem name_formed (k : Nat) (hk : k < 10) (lo hi : Int) (hv : vS lo hi = true) : formB (nameC k) 32 lo hi = true := by
 unfold formB
 rw [hv]
 have : nameB (nameC k) = true := by
  have h : k = 0 ∨ k = 1 ∨ k = 2 ∨ k = 3 ∨ k = 4 ∨ k = 5 ∨ k = 6 ∨ k = 7 ∨ k = 8 ∨ k = 9 := by omega
  rcases h with rfl | rfl | rfl | rfl | rfl | rfl | rfl | rfl | rfl | rfl <;> decide
 rw [this]
 rfl
theorem NoB.st (s : ByteArray) : NoB (.string s) := fun m e => by cases e
theorem noBL5 {a b c d e : Value} (ha : NoB a) (hb : NoB b) (hc : NoB c) (hd : NoB d) (he : NoB e) : NoByte [a, b, c, d, e] := by
 intro x hx n h
 simp only [List.mem_cons, List.not_mem_nil, or_false] at hx
 rcases hx with rfl | rfl | rfl | rfl | rfl
 · exact ha n h
 · exact hb n h
 · exact hc n h
 · exact hd n h
 · exact he n h
theorem sees_s5 {W : World} {g : Nat} {T : TypeId} {a b c d e u : Value} {l : Bs} (h : Box W g T [a, b, c, d, e]) (n : NoByte [a, b, c, d, e]) (x y z p q : Value) (hs : SeesB W W.heap.size u l) : SeesB (((((W.setCell ⟨g, 0, none⟩ x).setCell ⟨g, 1, none⟩ y).setCell ⟨g, 2, none⟩ z).setCell ⟨g, 3, none⟩ p).setCell ⟨g, 4, none⟩ q) (((((W.setCell ⟨g, 0, none⟩ x).setCell ⟨g, 1, none⟩ y).setCell ⟨g, 2, none⟩ z).setCell ⟨g, 3, none⟩ p).setCell ⟨g, 4, none⟩ q).heap.size u l := by
 have hz : (((((W.setCell ⟨g, 0, none⟩ x).setCell ⟨g, 1, none⟩ y).setCell ⟨g, 2, none⟩ z).setCell ⟨g, 3, none⟩ p).setCell ⟨g, 4, none⟩ q).heap.size = W.heap.size := by simp [World.setCell]
 rw [hz]
 exact hs.over (Nat.le_refl _) h n (ggo (ggo (ggo (ggo (setCell_grown W g 0 x) (setCell_grown _ g 1 y)) (setCell_grown _ g 2 z)) (setCell_grown _ g 3 p)) (setCell_grown _ g 4 q))
def CertM (w2 : World) (S2 : ByteArray) (pk SG : Bs) (lo hi : Int) (v13 v14 : Value) (W : World) : Prop :=
 ∃ g13 AP cP AG cG, v13 = .pointer (some ⟨g13, 0, none⟩) ∧ v14 = .int .i64 0 ∧ Box W g13 70 [.string S2, .slice AP pk.length cP, .int .i64 lo, .int .i64 hi, .slice AG SG.length cG] ∧ SeesB W W.heap.size (.slice AP pk.length cP) pk ∧ SeesB W W.heap.size (.slice AG SG.length cG) SG ∧ From w2.heap.size (.slice AP pk.length cP) ∧ From w2.heap.size (.slice AG SG.length cG) ∧ Below w2.heap.size w2 W
theorem cert_mid {w2 Y : World} {g13 : Nat} {AP AG : Option Addr} {cP cG : Nat} {S2 : ByteArray} {pk SG : Bs} {lo hi : Int} (hC : Box Y g13 70 [.string { data := #[] }, .slice none 0 0, .int .i64 0, .int .i64 0, .slice none 0 0]) (hg : w2.heap.size ≤ g13) (hP : SeesB Y Y.heap.size (.slice AP pk.length cP) pk) (hG : SeesB Y Y.heap.size (.slice AG SG.length cG) SG) (fP : From w2.heap.size (.slice AP pk.length cP)) (fG : From w2.heap.size (.slice AG SG.length cG)) (hb : Below w2.heap.size w2 Y) :
 CertM w2 S2 pk SG lo hi (.pointer (some ⟨g13, 0, none⟩)) (.int .i64 0) (((((Y.setCell ⟨g13, 0, none⟩ (.string S2)).setCell ⟨g13, 1, none⟩ (.slice AP pk.length cP)).setCell ⟨g13, 2, none⟩ (.int .i64 lo)).setCell ⟨g13, 3, none⟩ (.int .i64 hi)).setCell ⟨g13, 4, none⟩ (.slice AG SG.length cG)) :=
 have n5 := noBL5 (NoB.st { data := #[] }) (NoB.s none 0 0) (NoB.i 0) (NoB.i 0) (NoB.s none 0 0)
 ⟨g13, AP, cP, AG, cG, rfl, rfl, set5 hC _ _ _ _ _, sees_s5 hC n5 _ _ _ _ _ hP, sees_s5 hC n5 _ _ _ _ _ hG, fP, fG, below5 hb hg _ _ _ _ _⟩
section
variable {w w' : World} {base base' size n G j : Nat} {T : TypeId} {v x : Value} {ss : List Spec}
theorem OwnRF.mono (h : OwnRF w base T v size n ss) (hb : base' ≤ base) : OwnRF w base' T v size n ss := by
 obtain ⟨h0, vs, h1, h2⟩ := h
 exact ⟨h0, vs, row_mono h1 hb, fun k s hk => by obtain ⟨u, e1, e2, e3⟩ := h2 k s hk; exact ⟨u, e1, e2, e3.mono hb⟩⟩
theorem OwnRF.far (h : OwnRF w base T v size n ss) (hG : G < base) : OwnRF (w.setCell ⟨G, j, none⟩ x) base T v size n ss := by
 have hlt := h.own.lt
 obtain ⟨h0, vs, h1, h2⟩ := h
 have hne : v.ownBlock ≠ some G := fun e => by have := (hlt G e).1; omega
 refine ⟨h0, vs, h1.kept (setCell_grown w G j x) (.inr hne), fun k s hk => ?_⟩
 obtain ⟨u, e1, e2, e3⟩ := h2 k s hk
 refine ⟨u, e1, ?_, e3⟩
 cases s with
 | val y => exact e2
 | byt l => exact ⟨sees_far e2.1 e3 hG, e2.2⟩
end
theorem cert_elts {w : World} {n base : Nat} {v y z : Value} {nm a b : Bs} {f t : Int} (h2 : SeesB w w.heap.size y a) (h3 : SeesB w w.heap.size z b) (f2 : From n y) (f3 : From n z) (hv : ∀ j, v.ownBlock = some j → j < n) (hn : base ≤ n) : ∀ (k : Nat) (s : Spec), (certS ((nm, a, f, t, b) :: []))[k]? = some s → ∃ u, [Value.string (strB nm), y, .int .i64 f, .int .i64 t, z][k]? = some u ∧ EltS w v u s ∧ From base u := by
 intro k s hk
 match k, hk with
 | 0, hk => cases hk; exact ⟨_, rfl, ⟨rfl, rfl⟩, fun a n c e => by cases e⟩
 | 1, hk => cases hk; exact ⟨_, rfl, EltS.of_from h2 f2 hv, f2.mono hn⟩
 | 2, hk => cases hk; exact ⟨_, rfl, ⟨rfl, rfl⟩, fun a n c e => by cases e⟩
 | 3, hk => cases hk; exact ⟨_, rfl, ⟨rfl, rfl⟩, fun a n c e => by cases e⟩
 | 4, hk => cases hk; exact ⟨_, rfl, EltS.of_from h3 f3 hv, f3.mono hn⟩
theorem wpList_appRFG {ops : Array Oper} {rest : List Oper} {o : Oper} {a : Act} {w : World} {Q : Exit → Act → World → Prop} (hgd : Region.wanted o (yielded ops a.tmps) = true) (s x : Operand) (T E : TypeId) (hT : Tryz.prog.underlying T = some (.slice E))
 (ho : o.op = .call { callee := .builtin .append, args := #[s, x], argTypes := #[T, T] }) (i : TypeInfo) (z : Value) (size bytes : Nat) (hi : Tryz.prog.info? E = some i) (hz : i.zero = some z)
 (hsz : i.size = size) (hby : i.bytes = bytes) (hzs : z.cells.size = size) (h0 : 0 < size) (hby2 : bytes ≤ 1024)
 (base : Nat) (v : Value) (n : Nat) (ss : List Spec) (hs : a.eval s = v) (hown : OwnRF w base E v size n ss) (B : Nat) (u : Value) (m : Nat) (vs : List Value) (ts : List Spec) (hx : a.eval x = u) (hr : Sees w B u size m vs)
 (htl : ts.length = m * size) (hel : ∀ (k : Nat) (t : Spec), ts[k]? = some t → ∃ y, vs[k]? = some y ∧ EltS w v y t ∧ From base y)
 (hlen : n + m ≤ 1048576) (hbase : base ≤ w.heap.size)
 (h : ∀ v' w', OwnRF w' base E v' size (n + m) (ss ++ ts) → Below base w w' → w.grownBy w' v.ownBlock → wpList Tryz.prog ops Q rest (a.put o.dst v') w') : wpList Tryz.prog ops Q (o :: rest) a w :=
 BigFrame.wpList_want hgd fun _ hK => wp_appRF s x T E hT ho i z size bytes hi hz hsz hby hzs h0 hby2 base v n ss hs hown B u m vs ts hx hr htl hel hlen hbase fun v' w' h2 h3 h4 => hK _ _ (h v' w' h2 h3 h4)
theorem sees_grown_far {W W' : World} {n : Nat} {u : Value} {l : Bs} {r : Option Nat} (h : SeesB W W.heap.size u l) (f : From n u) (hg : W.grownBy W' r) (hr : ∀ j, r = some j → j < n) : SeesB W' W'.heap.size u l := by
 refine SeesB.more (SeesB.stay h fun hl k hk p hp => ?_) hg.size
 obtain ⟨A, c, rfl, -, -⟩ := h.mk_
 cases A with
 | none => cases hk
 | some a =>
   have h1 := f a _ _ rfl
   obtain ⟨b, o, e1, hb, -⟩ := SeesB.at_ h (List.length_pos_iff.2 hl)
   cases e1
   cases hk
   exact World.cell?_of_block (hg.block p.block (by rw [hp]; exact hb) (fun e => by have := hr _ e.symm; rw [hp] at this; have h2 : n ≤ b := h1; omega))
def CertsG (v : Int) (ws : List Sp) (w : World) (e : Ending) (w' : World) : Prop :=
 ∃ v1 v2 G, e = .returned (.tuple #[v1, v2]) ∧ OwnRF w' G 70 v1 5 ws.length (certS (honL v ws ws.length)) ∧ SeesB w' G v2 (keyG (seedC v 0) 0) ∧ From w.heap.size v2 ∧ Below w.heap.size w w' ∧ w.heap.size ≤ G ∧ G ≤ w'.heap.size
theorem str_back (x : UInt8) (n : Int) (h : (x.toNat : Int) = n) (W : World) (g : Nat) (hc : W.cell? ⟨g, 0, none⟩ = some (.int .u8 n)) : (convert 25 9 (.slice (some ⟨g, 0, none⟩) 1 1)).run Tryz.prog W = .ok (.string (strB (x :: []))) W := by
 refine run_convert_bytes_back W 25 9 5 ⟨g, 0, none⟩ 1 (x :: []) Tryz.underlying25 Tryz.underlying5 Tryz.underlying9 fun j hj => ?_
 have hj0 : j = 0 := by simp at hj; omega
 subst hj0
 have := hc
 rw [← h] at this
 exact this
set_option maxRecDepth 100000 in
set_option maxHeartbeats 8000000 in
theorem kcerts2_any (v : Int) (B : Nat) (u : Value) (ws : List Sp) (w : World) (hu : SeesS w B u ws) (hB : B ≤ w.heap.size) (h0 : 0 < ws.length) (hn : ws.length ≤ 9) (hv : ∀ k, k < ws.length → vS (ws.getD k (0, 0)).1 (ws.getD k (0, 0)).2 = true) :
 Calls Tryz.prog 35 #[.int .i64 v, u] w (CertsG v ws w) := by
 obtain ⟨A, c, rfl, hc1, hc2⟩ := hu.mk_
 obtain ⟨b0, o0, rfl, hb0, hcell⟩ := hu.at_ h0
 obtain ⟨ti, hti, htz, hts, htb⟩ := info_parts cert_info
 replace hti := Lib.hid hti
 replace htz := Lib.hid htz
 replace hts := Lib.hid hts
 replace htb := Lib.hid htb
 replace hcell := Lib.hid hcell
 replace hv := Lib.hid hv
 have hks := Lib.hid (fun x W => ksignerW_any x 0 W)
 clear hu
 go_enter Tryz.func35, Tryz.ntmps35
 go_wp2_with fail
 refine (hks.out _ _).mono ?_
 rintro e w1 ⟨v1, v2, sd, pk, rfl, r1, -, hsd, hsl, r2, hpk, hpl, f2, hb1⟩
 rw [show (0 : Int) % 2 = 0 from rfl] at hpk ⊢
 obtain ⟨A1, c1, rfl, -, -⟩ := r1.mk_
 obtain ⟨A2, c2, rfl, -, -⟩ := r2.mk_
 rw [hsl] at r1 ⊢
 rw [hpl] at r2 f2 ⊢
 have hsd0 : sd = seedC v 0 := hsd
 subst hsd0
 have hpk0 : pk = keyG (seedC v 0) 0 := by rw [hpk]; exact pubG_key _ 0 hsl (by omega)
 subst hpk0
 have hal := balloc w1 (.cells #[.slice A1 32 c1, .int .i64 0, .int .i64 0] 27)
 have x6 := Box.new w1 27 [.slice A1 32 c1, .int .i64 0, .int .i64 0]
 change Box (w1.alloc (.cells #[.slice A1 32 c1, .int .i64 0, .int .i64 0] 27)) _ _ _ at x6
 replace r1 := Lib.hid (seesB_of r1 (Nat.le_refl _) hal)
 replace r2 : Hid (SeesB (w1.alloc (.cells #[.slice A1 32 c1, .int .i64 0, .int .i64 0] 27)) w1.heap.size (.slice A2 32 c2) (keyG (seedC v 0) 0)) := SeesB.below r2 hal
 replace f2 := Lib.hid f2
 have hbw := Lib.hid (bgo hb1 hal)
 have hz0 : Hid (w1.heap.size + 1 = (w1.alloc (.cells #[.slice A1 32 c1, .int .i64 0, .int .i64 0] 27)).heap.size) := (World.size_alloc _ _).symm
 have hg6 : Hid (w.heap.size ≤ w1.heap.size) := hb1.size
 clear hal hb1 hsd hpk hsl hpl
 dsimp only
 go_upto_region 2 with (fail)
 generalize w1.alloc (.cells #[.slice A1 32 c1, .int .i64 0, .int .i64 0] 27) = W1 at *
 generalize w1.heap.size = g6 at *
 replace x6 := Lib.hid x6
 go_wp2_with fail
 go_loopw [8, 9] (fun vo t wr => ∃ i : Nat, i ≤ ws.length ∧ t = .int .i64 i ∧ Hid (OwnRF wr (g6 + 1) 70 vo 5 i (certS (honL v ws i))) ∧ Hid (∃ A6 c6, Box wr g6 27 [.slice A6 32 c6, .int .i64 0, .int .i64 0] ∧ SeesB wr wr.heap.size (.slice A6 32 c6) (seedC v i)) ∧ Hid (SeesB wr g6 (.slice A2 32 c2) (keyG (seedC v 0) 0)) ∧ Hid (Below w.heap.size w wr) ∧ Hid (g6 + 1 ≤ wr.heap.size)) (fun _ t _ => ws.length - (intOf t).toNat)
 case atStart => exact ⟨0, by omega, rfl, OwnRF.nil _ _ _ _, ⟨A1, c1, x6.out, r1.out⟩, r2, hbw, Nat.le_of_eq hz0.out⟩
 case round =>
  obtain ⟨i, hi, rfl, ho, hs6, hr2, hb, hz⟩ := hrel
  obtain ⟨Ao, co, rfl, -, -⟩ := ho.out.own.sees.mk_
  by_cases hlt : i < ws.length
  · have i0 : (i : Int) < (ws.length : Int) := by omega
    have j0 : (0 : Int) ≤ (i : Int) := by omega
    obtain ⟨A6, c6, x6', s6⟩ := hs6.out
    have hget : ws[i]? = some (ws.getD i (0, 0)) := by rw [List.getD_eq_getElem?_getD, List.getElem?_eq_getElem hlt]; rfl
    obtain ⟨z0, z1⟩ := hcell.out i _ hget
    have hvi := hv.out i hlt
    have hnx := honL_next v ws i
    have hhc : honC v ws i = (nameC i, keyG (seedC v (i + 1)) 0, (ws.getD i (0, 0)).1, (ws.getD i (0, 0)).2, sigG (seedC v i) 0 0 (ctextB (nameC i) (keyG (seedC v (i + 1)) 0) (ws.getD i (0, 0)).1 (ws.getD i (0, 0)).2)) := rfl
    rw [hhc] at hnx
    generalize (ws.getD i (0, 0)).1 = lo at *
    generalize (ws.getD i (0, 0)).2 = hi' at *
    have hrow : Hid (∀ W : World, Below w.heap.size w W → W.cell? ⟨b0, o0 + i * 2, none⟩ = some (.int .i64 lo) ∧ W.cell? ⟨b0, o0 + i * 2 + 1, none⟩ = some (.int .i64 hi')) := fun W hW => ⟨(hW.cell (p := ⟨b0, o0 + i * 2, none⟩) (show b0 < w.heap.size by omega)).trans z0, (hW.cell (p := ⟨b0, o0 + i * 2 + 1, none⟩) (show b0 < w.heap.size by omega)).trans z1⟩
    clear z0 z1 hget hhc
    have hw2 : wrap64 (wrap64 (v + 400) + (i : Int)) = wrap64 (v + 400 + (i : Int)) := by unfold wrap64; omega
    replace x6' := Lib.hid x6'
    replace s6 := Lib.hid s6
    replace hnx := Lib.hid hnx
    replace hvi := Lib.hid hvi
    clear hs6
    go_wp2_with fail
    refine (hks.out _ _).mono ?_
    rintro e w2 ⟨v3, v4, sd, pk, rfl, q1, f3, hsd, hsl, q2, hpk, hpl, f4, hb2⟩
    rw [show (0 : Int) % 2 = 0 from rfl] at hpk ⊢
    have hsd1 : sd = seedC v (i + 1) := by rw [hsd]; first | rfl | (show randK _ 32 = randK _ 32; rw [hw2])
    subst hsd1
    have hpk1 : pk = keyG (seedC v (i + 1)) 0 := by rw [hpk]; exact pubG_key _ 0 hsl (by omega)
    rw [← hpk1] at hnx
    obtain ⟨A3, c3, rfl, -, -⟩ := q1.mk_
    obtain ⟨A4, c4, rfl, -, -⟩ := q2.mk_
    rw [hsl] at q1 f3 ⊢
    rw [hpl] at q2 f4 ⊢
    have hol10 : Hid (∀ j, (Value.slice Ao i co).ownBlock = some j → j < wr.heap.size) := fun j hj => (ho.out.own.lt j hj).2
    have hwr10 : Hid (wr.heap.size ≤ w2.heap.size) := hb2.size
    replace f3 := Lib.hid f3
    have hal2 := balloc w2 (.cells #[.slice A3 32 c3, .int .i64 0, .int .i64 0] 27)
    have x10 := Box.new w2 27 [.slice A3 32 c3, .int .i64 0, .int .i64 0]
    change Box (w2.alloc (.cells #[.slice A3 32 c3, .int .i64 0, .int .i64 0] 27)) _ _ _ at x10
    have hb22 := bgo hb2 hal2
    have ho2 := Lib.hid (ho.out.below hb22)
    have x62 := Lib.hid (x6'.out.below hb22)
    have s62 := Lib.hid (seesB_of s6.out (Nat.le_refl _) hb22)
    have hr22 := Lib.hid (SeesB.below hr2.out (hb22.mono (Nat.le_of_succ_le hz.out)))
    have hbw2 := Lib.hid (bgo hb.out hb22)
    have hz2 := Lib.hid (Nat.le_trans hz.out hb22.size)
    replace q1 := Lib.hid (seesB_of q1 (Nat.le_refl _) hal2)
    replace q2 := Lib.hid (seesB_of q2 (Nat.le_refl _) hal2)
    replace f4 := Lib.hid f4
    replace x10 := Lib.hid x10
    have hlt10 := Lib.hid x10.out.lt
    have hgg10 : Hid (g6 ≠ w2.heap.size) := by
     have h1 := x6'.out.lt
     have h2 := hb2.size
     show _ ≠ _
     omega
    clear hb2 hal2 hb22 hsd hpk ho s6 x6' hr2 hb hz
    dsimp only
    go_upto_region 7 with (fail)
    generalize w2.alloc (.cells #[.slice A3 32 c3, .int .i64 0, .int .i64 0] 27) = W2 at *
    generalize w2.heap.size = g10 at x10 hlt10 hgg10 hwr10 ⊢
    have hsg := Lib.hid (fun (W : World) (hW : Below W2.heap.size W2 W) => crsign_any W.heap.size (.slice A6 32 c6) (.slice A4 32 c4) (seedC v i) (nameC i) pk lo hi' W (seesB_of s62.out (Nat.le_refl _) hW) (seesB_of q2.out (Nat.le_refl _) hW) (Nat.le_refl _) (seedC_len v i) (by rw [hpl]; exact name_formed i (by omega) lo hi' hvi.out))
    have m48 : IntKind.u8.wrap (48 + (i : Int)) = 48 + (i : Int) := by rw [IntKind.wrap_u8]; omega
    have m49 : IntKind.i64.wrap (48 + (i : Int)) = 48 + (i : Int) := by rw [IntKind.wrap_i64]; omega
    have hx8 : ((UInt8.ofNat (48 + i)).toNat : Int) = 48 + (i : Int) := by simp; omega
    have hstr := Lib.hid (str_back (UInt8.ofNat (48 + i)) (48 + (i : Int)) hx8)
    have hcat : ({ data := #[97] } : ByteArray) ++ strB (UInt8.ofNat (48 + i) :: []) = strB (nameC i) := by
     unfold strB nameC
     apply ByteArray.ext
     rfl
    have hnm : Hid (nameC i = nameC i) := rfl
    generalize hS2 : strB (nameC i) = S2 at *
    replace hS2 := Lib.hid hS2
    have hs1 : (strB (UInt8.ofNat (48 + i) :: [])).size = 1 := rfl
    generalize strB (UInt8.ofNat (48 + i) :: []) = S1 at *
    have K : Hid (∀ W : World, Below W2.heap.size W2 W → W.cell? ⟨g6, 0, none⟩ = some (.slice A6 32 c6) ∧ W.cell? ⟨g6, 1, none⟩ = some (.int .i64 0) ∧ W.cell? ⟨g6, 2, none⟩ = some (.int .i64 0) ∧ W.cell? ⟨b0, o0 + i * 2, none⟩ = some (.int .i64 lo) ∧ W.cell? ⟨b0, o0 + i * 2 + 1, none⟩ = some (.int .i64 hi')) := fun W hW => ⟨(x62.out.below hW).cell 0, (x62.out.below hW).cell 1, (x62.out.below hW).cell 2, hrow.out W (bgo hbw2.out hW)⟩
    have hbC := Lib.hid (bdrew W2)
    unfold CRSignP at hsg
    rw [hS2.out] at hsg
    generalize hSG : sigG (seedC v i) 0 0 (ctextB (nameC i) pk lo hi') = SG at *
    replace hSG := Lib.hid hSG
    replace hpl := Lib.hid hpl
    replace hpk1 := Lib.hid hpk1
    replace hw2 := Lib.hid hw2
    replace hsl := Lib.hid hsl
    clear hrow hx8
    go_wp2_with fail
    go_cut [13, 14] (fun v13 v14 W => CertM W2 S2 pk SG lo hi' v13 v14 W)
    case first =>
     refine wp_region_J (fun W' : World => W'.cell? ⟨g6, 0, none⟩ = some (.slice A6 32 c6) ∧ W'.cell? ⟨g6, 1, none⟩ = some (.int .i64 0) ∧ W'.cell? ⟨g6, 2, none⟩ = some (.int .i64 0) ∧ W'.cell? ⟨b0, o0 + i * 2, none⟩ = some (.int .i64 lo) ∧ W'.cell? ⟨b0, o0 + i * 2 + 1, none⟩ = some (.int .i64 hi')) 26 (by kernel_rfl) ?_ (fun hHeld => ?_)
     · (try dsimp only); (first | exact K.out _ hbC.out | exact K.out _ (bdrew W2))
     generalize W2.drew = X at *
     refine wpAnyJ_take (i := 0) (v := ?_) rfl (by kernel_rfl) (by kernel_rfl) (by kernel_rfl) (fun _ _ _ h => h) (by rfl) rfl (by kernel_rfl) (by kernel_rfl) (Or.inl ⟨by rfl, ?_⟩) (by assumption) ?_
     rotate_left 1
     · intro w hSw; (try dsimp only at hSw); go_simp <;> (try with_reducible rfl)
     try simp only [Act.put, List.getElem_toArray, List.getElem_cons_succ, List.getElem_cons_zero, List.setIfInBounds_toArray, List.set_cons_zero, List.set_cons_succ]
     refine wpAnyJ_take0 (i := 1) (v := ?_) rfl (by kernel_rfl) (by kernel_rfl) (by kernel_rfl) (fun _ _ _ h => h) (by rfl) (Or.inl ⟨by rfl, ?_⟩) (by assumption) ?_
     rotate_left 1
     · intro w hSw; (try dsimp only at hSw); go_simp <;> (try with_reducible rfl)
     try simp only [Act.put, List.getElem_toArray, List.getElem_cons_succ, List.getElem_cons_zero, List.setIfInBounds_toArray, List.set_cons_zero, List.set_cons_succ]
     refine wpAnyJ_take0 (i := 2) (v := ?_) rfl (by kernel_rfl) (by kernel_rfl) (by kernel_rfl) (fun _ _ _ h => h) (by rfl) (Or.inl ⟨by rfl, ?_⟩) (by assumption) ?_
     rotate_left 1
     · intro w hSw; (try dsimp only at hSw); go_simp <;> (try with_reducible rfl)
     try simp only [Act.put, List.getElem_toArray, List.getElem_cons_succ, List.getElem_cons_zero, List.setIfInBounds_toArray, List.set_cons_zero, List.set_cons_succ]
     refine wpAnyJ_take0 (i := 3) (v := ?_) rfl (by kernel_rfl) (by kernel_rfl) (by kernel_rfl) (fun _ _ _ h => h) (by rfl) (Or.inl ⟨by rfl, ?_⟩) (by assumption) ?_
     rotate_left 1
     · intro w hSw; (try dsimp only at hSw); go_simp <;> (try with_reducible rfl)
     try simp only [Act.put, List.getElem_toArray, List.getElem_cons_succ, List.getElem_cons_zero, List.setIfInBounds_toArray, List.set_cons_zero, List.set_cons_succ]
     refine wpAnyJ_take0 (i := 7) (v := ?_) rfl (by kernel_rfl) (by kernel_rfl) (by kernel_rfl) (fun _ _ _ h => h) (by rfl) (Or.inl ⟨by rfl, ?_⟩) (by assumption) ?_
     rotate_left 1
     · intro w hSw; (try dsimp only at hSw); go_simp <;> (try with_reducible rfl)
     try simp only [Act.put, List.getElem_toArray, List.getElem_cons_succ, List.getElem_cons_zero, List.setIfInBounds_toArray, List.set_cons_zero, List.set_cons_succ]
     refine wpAnyJ_take0 (i := 8) (v := ?_) rfl (by kernel_rfl) (by kernel_rfl) (by kernel_rfl) (fun _ _ _ h => h) (by rfl) (Or.inl ⟨by rfl, ?_⟩) (by assumption) ?_
     rotate_left 1
     · intro w hSw; (try dsimp only at hSw); go_simp <;> (try with_reducible rfl)
     try simp only [Act.put, List.getElem_toArray, List.getElem_cons_succ, List.getElem_cons_zero, List.setIfInBounds_toArray, List.set_cons_zero, List.set_cons_succ]
     refine wpAnyJ_take0 (i := 9) (v := ?_) rfl (by kernel_rfl) (by kernel_rfl) (by kernel_rfl) (fun _ _ _ h => h) (by rfl) (Or.inl ⟨by rfl, ?_⟩) (by assumption) ?_
     rotate_left 1
     · intro w hSw; (try dsimp only at hSw); go_simp <;> (try with_reducible rfl)
     try simp only [Act.put, List.getElem_toArray, List.getElem_cons_succ, List.getElem_cons_zero, List.setIfInBounds_toArray, List.set_cons_zero, List.set_cons_succ]
     refine wpAnyJ_take0 (i := 10) (v := ?_) rfl (by kernel_rfl) (by kernel_rfl) (by kernel_rfl) (fun _ _ _ h => h) (by rfl) (Or.inl ⟨by rfl, ?_⟩) (by assumption) ?_
     rotate_left 1
     · intro w hSw; (try dsimp only at hSw); go_simp <;> (try with_reducible rfl)
     try simp only [Act.put, List.getElem_toArray, List.getElem_cons_succ, List.getElem_cons_zero, List.setIfInBounds_toArray, List.set_cons_zero, List.set_cons_succ]
     refine wpAnyJ_take0 (i := 11) (v := ?_) rfl (by kernel_rfl) (by kernel_rfl) (by kernel_rfl) (fun _ _ _ h => h) (by rfl) (Or.inl ⟨by rfl, ?_⟩) (by assumption) ?_
     rotate_left 1
     · intro w hSw; (try dsimp only at hSw); go_simp <;> (try with_reducible rfl)
     try simp only [Act.put, List.getElem_toArray, List.getElem_cons_succ, List.getElem_cons_zero, List.setIfInBounds_toArray, List.set_cons_zero, List.set_cons_succ]
     refine wpAnyJ_take (i := 12) (v := ?_) rfl (by kernel_rfl) (by kernel_rfl) (by kernel_rfl) (fun _ _ _ h => h) (by rfl) rfl (by kernel_rfl) (by kernel_rfl) (Or.inl ⟨by rfl, ?_⟩) (by assumption) ?_
     rotate_left 1
     · intro w hSw; (try dsimp only at hSw); go_simp <;> (try with_reducible rfl)
     try simp only [Act.put, List.getElem_toArray, List.getElem_cons_succ, List.getElem_cons_zero, List.setIfInBounds_toArray, List.set_cons_zero, List.set_cons_succ]
     refine wpAnyJ_take0 (i := 13) (v := ?_) rfl (by kernel_rfl) (by kernel_rfl) (by kernel_rfl) (fun _ _ _ h => h) (by rfl) (Or.inl ⟨by rfl, ?_⟩) (by assumption) ?_
     rotate_left 1
     · intro w hSw; (try dsimp only at hSw); go_simp <;> (try with_reducible rfl)
     try simp only [Act.put, List.getElem_toArray, List.getElem_cons_succ, List.getElem_cons_zero, List.setIfInBounds_toArray, List.set_cons_zero, List.set_cons_succ]
     refine wpAnyJ_take0 (i := 14) (v := ?_) rfl (by kernel_rfl) (by kernel_rfl) (by kernel_rfl) (fun _ _ _ h => h) (by rfl) (Or.inl ⟨by rfl, ?_⟩) (by assumption) ?_
     rotate_left 1
     · intro w hSw; (try dsimp only at hSw); go_simp <;> (try with_reducible rfl)
     try simp only [Act.put, List.getElem_toArray, List.getElem_cons_succ, List.getElem_cons_zero, List.setIfInBounds_toArray, List.set_cons_zero, List.set_cons_succ]
     refine wpAnyJ_take0 (i := 15) (v := ?_) rfl (by kernel_rfl) (by kernel_rfl) (by kernel_rfl) (fun _ _ _ h => h) (by rfl) (Or.inl ⟨by rfl, ?_⟩) (by assumption) ?_
     rotate_left 1
     · intro w hSw; (try dsimp only at hSw); go_simp <;> (try with_reducible rfl)
     try simp only [Act.put, List.getElem_toArray, List.getElem_cons_succ, List.getElem_cons_zero, List.setIfInBounds_toArray, List.set_cons_zero, List.set_cons_succ]
     refine wpAnyJ_take0 (i := 16) (v := ?_) rfl (by kernel_rfl) (by kernel_rfl) (by kernel_rfl) (fun _ _ _ h => h) (by rfl) (Or.inl ⟨by rfl, ?_⟩) (by assumption) ?_
     rotate_left 1
     · intro w hSw; (try dsimp only at hSw); go_simp <;> (try with_reducible rfl)
     try simp only [Act.put, List.getElem_toArray, List.getElem_cons_succ, List.getElem_cons_zero, List.setIfInBounds_toArray, List.set_cons_zero, List.set_cons_succ]
     refine wpAnyJ_take (i := 17) (v := ?_) rfl (by kernel_rfl) (by kernel_rfl) (by kernel_rfl) (fun _ _ _ h => h) (by rfl) rfl (by kernel_rfl) (by kernel_rfl) (Or.inl ⟨by rfl, ?_⟩) (by assumption) ?_
     rotate_left 1
     · intro w hSw; (try dsimp only at hSw); go_simp <;> (try with_reducible rfl)
     try simp only [Act.put, List.getElem_toArray, List.getElem_cons_succ, List.getElem_cons_zero, List.setIfInBounds_toArray, List.set_cons_zero, List.set_cons_succ]
     refine wpAnyJ_ready (rs := [4, 24, 25]) (by kernel_rfl) (by simp) ?_
     refine AllReadyJ.cons (o := _) rfl (fun Kq hKq => ?_) ?_
     · go_simp
       have hal := balloc X (.cells #[.int .u8 (48 + (i : Int))] 5)
       have hB := Box.new X 5 [.int .u8 (48 + (i : Int))]
       change Box (X.alloc (.cells #[.int .u8 (48 + (i : Int))] 5)) _ _ _ at hB
       replace hbC := Lib.hid (bgo hbC.out hal)
       clear hal
       generalize X.heap.size = gB at hB ⊢
       generalize X.alloc (.cells #[.int .u8 (48 + (i : Int))] 5) = X at *
       refine hKq.out _ _ ?_ (fun hHeld => ?_)
       · intro _; (try dsimp only); (first | exact K.out _ hbC.out | exact K.out _ (bdrew W2))
       clear hKq Kq
       try simp only [Act.put, List.getElem_toArray, List.getElem_cons_succ, List.getElem_cons_zero, List.setIfInBounds_toArray, List.set_cons_zero, List.set_cons_succ]
       refine wpAnyJ_ready (rs := [5, 24, 25]) (by kernel_rfl) (by simp) ?_
       refine AllReadyJ.cons (o := _) rfl (fun Kq hKq => ?_) ?_
       · skip
         have hcv := hstr.out X gB (hB.cell 0)
         go_simp
         clear hB hcv
         refine hKq.out _ _ ?_ (fun hHeld => ?_)
         · intro _; (try dsimp only); (first | exact K.out _ hbC.out | exact K.out _ (bdrew W2))
         clear hKq Kq
         try simp only [Act.put, List.getElem_toArray, List.getElem_cons_succ, List.getElem_cons_zero, List.setIfInBounds_toArray, List.set_cons_zero, List.set_cons_succ]
         refine wpAnyJ_take0 (i := 6) (v := ?_) rfl (by kernel_rfl) (by kernel_rfl) (by kernel_rfl) (fun _ _ _ h => h) (by rfl) (Or.inl ⟨by rfl, ?_⟩) (by assumption) ?_
         rotate_left 1
         · intro w hSw; (try dsimp only at hSw); go_simp <;> (try with_reducible rfl)
         try simp only [Act.put, List.getElem_toArray, List.getElem_cons_succ, List.getElem_cons_zero, List.setIfInBounds_toArray, List.set_cons_zero, List.set_cons_succ]
         refine wpAnyJ_take0 (i := 18) (v := ?_) rfl (by kernel_rfl) (by kernel_rfl) (by kernel_rfl) (fun _ _ _ h => h) (by rfl) (Or.inl ⟨by rfl, ?_⟩) (by assumption) ?_
         rotate_left 1
         · intro w hSw; (try dsimp only at hSw); go_simp <;> (try with_reducible rfl)
         try simp only [Act.put, List.getElem_toArray, List.getElem_cons_succ, List.getElem_cons_zero, List.setIfInBounds_toArray, List.set_cons_zero, List.set_cons_succ]
         refine wpAnyJ_ready (rs := [19, 24, 25]) (by kernel_rfl) (by simp) ?_
         refine AllReadyJ.cons (o := _) rfl (fun Kq hKq => ?_) ?_
         · go_simp
           go_at_call 50
           have hfz := hbC.out.size
           refine (hsg.out X hbC.out).mono ?_
           rintro e X ⟨vV, vP, vG, rfl, ⟨AV, mV, cV, rfl⟩, hP, hG, fP, fG, hal⟩
           obtain ⟨AP, cP, rfl, -, -⟩ := hP.mk_
           obtain ⟨AG, cG, rfl, -, -⟩ := hG.mk_
           replace hbC := Lib.hid (bgo hbC.out hal)
           replace fP := fP.mono hfz
           replace fG := fG.mono hfz
           clear hal hfz
           go_wp2_with fail
           refine hKq.out _ _ ?_ (fun hHeld => ?_)
           · intro _; (try dsimp only); (first | exact K.out _ hbC.out | exact K.out _ (bdrew W2))
           clear hKq Kq
           try simp only [Act.put, List.getElem_toArray, List.getElem_cons_succ, List.getElem_cons_zero, List.setIfInBounds_toArray, List.set_cons_zero, List.set_cons_succ]
           refine wpAnyJ_take0 (i := 20) (v := ?_) rfl (by kernel_rfl) (by kernel_rfl) (by kernel_rfl) (fun _ _ _ h => h) (by rfl) (Or.inl ⟨by rfl, ?_⟩) (by assumption) ?_
           rotate_left 1
           · intro w hSw; (try dsimp only at hSw); go_simp <;> (try with_reducible rfl)
           try simp only [Act.put, List.getElem_toArray, List.getElem_cons_succ, List.getElem_cons_zero, List.setIfInBounds_toArray, List.set_cons_zero, List.set_cons_succ]
           refine wpAnyJ_take0 (i := 21) (v := ?_) rfl (by kernel_rfl) (by kernel_rfl) (by kernel_rfl) (fun _ _ _ h => h) (by rfl) (Or.inl ⟨by rfl, ?_⟩) (by assumption) ?_
           rotate_left 1
           · intro w hSw; (try dsimp only at hSw); go_simp <;> (try with_reducible rfl)
           try simp only [Act.put, List.getElem_toArray, List.getElem_cons_succ, List.getElem_cons_zero, List.setIfInBounds_toArray, List.set_cons_zero, List.set_cons_succ]
           refine wpAnyJ_take0 (i := 22) (v := ?_) rfl (by kernel_rfl) (by kernel_rfl) (by kernel_rfl) (fun _ _ _ h => h) (by rfl) (Or.inl ⟨by rfl, ?_⟩) (by assumption) ?_
           rotate_left 1
           · intro w hSw; (try dsimp only at hSw); go_simp <;> (try with_reducible rfl)
           try simp only [Act.put, List.getElem_toArray, List.getElem_cons_succ, List.getElem_cons_zero, List.setIfInBounds_toArray, List.set_cons_zero, List.set_cons_succ]
           refine wpAnyJ_take0 (i := 23) (v := ?_) rfl (by kernel_rfl) (by kernel_rfl) (by kernel_rfl) (fun _ _ _ h => h) (by rfl) (Or.inl ⟨by rfl, ?_⟩) (by assumption) ?_
           rotate_left 1
           · intro w hSw; (try dsimp only at hSw); go_simp <;> (try with_reducible rfl)
           try simp only [Act.put, List.getElem_toArray, List.getElem_cons_succ, List.getElem_cons_zero, List.setIfInBounds_toArray, List.set_cons_zero, List.set_cons_succ]
           refine wpAnyJ_ready (rs := [24, 25]) (by kernel_rfl) (by simp) ?_
           refine AllReadyJ.cons (o := _) rfl (fun Kq hKq => ?_) ?_
           · go_simp
             have hal := balloc X (.cells #[.slice none 0 0, .int .i64 0, .int .i64 0] 27)
             have hZ := Box.new X 27 [.slice none 0 0, .int .i64 0, .int .i64 0]
             change Box (X.alloc (.cells #[.slice none 0 0, .int .i64 0, .int .i64 0] 27)) _ _ _ at hZ
             have hg12 := hbC.out.size
             replace hP := seesB_of hP (Nat.le_refl _) hal
             replace hG := seesB_of hG (Nat.le_refl _) hal
             replace hbC := Lib.hid (bgo hbC.out hal)
             clear hal
             generalize X.heap.size = g12 at hZ hg12 ⊢
             generalize X.alloc (.cells #[.slice none 0 0, .int .i64 0, .int .i64 0] 27) = X at *
             refine hKq.out _ _ ?_ (fun hHeld => ?_)
             · intro _; (try dsimp only); (first | exact K.out _ hbC.out | exact K.out _ (bdrew W2))
             clear hKq Kq
             try simp only [Act.put, List.getElem_toArray, List.getElem_cons_succ, List.getElem_cons_zero, List.setIfInBounds_toArray, List.set_cons_zero, List.set_cons_succ]
             refine wpAnyJ_ready (rs := [25]) (by kernel_rfl) (by simp) ?_
             refine AllReadyJ.cons (o := _) rfl (fun Kq hKq => ?_) ?_
             · go_simp
               have hal := balloc X (.cells #[.string { data := #[] }, .slice none 0 0, .int .i64 0, .int .i64 0, .slice none 0 0] 70)
               have hC := Box.new X 70 [.string { data := #[] }, .slice none 0 0, .int .i64 0, .int .i64 0, .slice none 0 0]
               change Box (X.alloc (.cells #[.string { data := #[] }, .slice none 0 0, .int .i64 0, .int .i64 0, .slice none 0 0] 70)) _ _ _ at hC
               have hg13 := hbC.out.size
               have hne := Nat.ne_of_lt hZ.lt
               replace hZ := hZ.below hal
               replace hP := seesB_of hP (Nat.le_refl _) hal
               replace hG := seesB_of hG (Nat.le_refl _) hal
               replace hbC := Lib.hid (bgo hbC.out hal)
               clear hal
               generalize X.heap.size = g13 at hC hg13 hne ⊢
               generalize X.alloc (.cells #[.string { data := #[] }, .slice none 0 0, .int .i64 0, .int .i64 0, .slice none 0 0] 70) = X at *
               refine hKq.out _ _ ?_ (fun hHeld => ?_)
               · intro _; (try dsimp only); (first | exact K.out _ hbC.out | exact K.out _ (bdrew W2))
               clear hKq Kq
               try simp only [Act.put, List.getElem_toArray, List.getElem_cons_succ, List.getElem_cons_zero, List.setIfInBounds_toArray, List.set_cons_zero, List.set_cons_succ]
               refine wpAnyJ_ready (rs := [26]) (by kernel_rfl) (by simp) ?_
               refine AllReadyJ.cons (o := _) rfl (fun Kq hKq => ?_) ?_
               · skip
                 obtain ⟨e0, e1, e2, j0, j1, j2⟩ := box3_cells hZ
                 go_simp
                 clear e0 e1 e2 j0 j1 j2
                 have hZ2 := lset3 hZ (.slice AV mV cV) (.int .i64 0) (.int .i64 1)
                 have hC2 := off3 hC hne (.slice AV mV cV) (.int .i64 0) (.int .i64 1)
                 have hP2 := sees_s3 hZ (noBL3' (NoB.s none 0 0) (NoB.i 0) (NoB.i 0)) (.slice AV mV cV) (.int .i64 0) (.int .i64 1) hP
                 have hG2 := sees_s3 hZ (noBL3' (NoB.s none 0 0) (NoB.i 0) (NoB.i 0)) (.slice AV mV cV) (.int .i64 0) (.int .i64 1) hG
                 have hb2 := ((hbC.out.setCell (p := ⟨g12, 0, none⟩) hg12 (.slice AV mV cV)).setCell (p := ⟨g12, 1, none⟩) hg12 (.int .i64 0)).setCell (p := ⟨g12, 2, none⟩) hg12 (.int .i64 1)
                 generalize ((X.setCell ⟨g12, 0, none⟩ (.slice AV mV cV)).setCell ⟨g12, 1, none⟩ (.int .i64 0)).setCell ⟨g12, 2, none⟩ (.int .i64 1) = Y at *
                 refine hKq.out _ _ ?_ (fun hHeld => ?_)
                 · intro hl; exact absurd hl (by decide)
                 clear hKq Kq
                 try simp only [Act.put, List.getElem_toArray, List.getElem_cons_succ, List.getElem_cons_zero, List.setIfInBounds_toArray, List.set_cons_zero, List.set_cons_succ]
                 refine wpAnyJ_ready (rs := [27]) (by kernel_rfl) (by simp) ?_
                 refine AllReadyJ.cons (o := _) rfl (fun Kq hKq => ?_) ?_
                 · skip
                   obtain ⟨e0, e1, e2, e3, e4⟩ := box5_cells hC2
                   have j0 := hC2.frozen 0
                   have j1 := hC2.frozen 1
                   have j2 := hC2.frozen 2
                   have j3 := hC2.frozen 3
                   have j4 := hC2.frozen 4
                   go_simp
                   refine hKq.out _ _ ?_ (fun hHeld => ?_)
                   · intro hl; exact absurd hl (by decide)
                   clear hKq Kq
                   try simp only [Act.put, List.getElem_toArray, List.getElem_cons_succ, List.getElem_cons_zero, List.setIfInBounds_toArray, List.set_cons_zero, List.set_cons_succ]
                   refine wpAnyJ_take0 (i := 28) (v := ?_) rfl (by kernel_rfl) (by kernel_rfl) (by kernel_rfl) (fun _ _ _ h => h) (by rfl) (Or.inl ⟨by rfl, ?_⟩) (by assumption) ?_
                   rotate_left 1
                   · intro w hSw; (try dsimp only at hSw); go_simp <;> (try with_reducible rfl)
                   try simp only [Act.put, List.getElem_toArray, List.getElem_cons_succ, List.getElem_cons_zero, List.setIfInBounds_toArray, List.set_cons_zero, List.set_cons_succ]
                   refine wpAnyJ_done (by kernel_rfl) ?_ _
                   clear e0 e1 e2 e3 e4 j0 j1 j2 j3 j4 hHeld
                   go_wp2_with fail
                   go_meet
                   exact cert_mid hC2 hg13 hP2 hG2 fP fG hb2
                 exact AllReadyJ.nil
               exact AllReadyJ.nil
             exact AllReadyJ.nil
           refine AllReadyJ.cons (o := _) rfl (fun Kq hKq => ?_) ?_
           · go_simp
             have hal := balloc X (.cells #[.string { data := #[] }, .slice none 0 0, .int .i64 0, .int .i64 0, .slice none 0 0] 70)
             have hC := Box.new X 70 [.string { data := #[] }, .slice none 0 0, .int .i64 0, .int .i64 0, .slice none 0 0]
             change Box (X.alloc (.cells #[.string { data := #[] }, .slice none 0 0, .int .i64 0, .int .i64 0, .slice none 0 0] 70)) _ _ _ at hC
             have hg13 := hbC.out.size
             replace hP := seesB_of hP (Nat.le_refl _) hal
             replace hG := seesB_of hG (Nat.le_refl _) hal
             replace hbC := Lib.hid (bgo hbC.out hal)
             clear hal
             generalize X.heap.size = g13 at hC hg13 ⊢
             generalize X.alloc (.cells #[.string { data := #[] }, .slice none 0 0, .int .i64 0, .int .i64 0, .slice none 0 0] 70) = X at *
             refine hKq.out _ _ ?_ (fun hHeld => ?_)
             · intro _; (try dsimp only); (first | exact K.out _ hbC.out | exact K.out _ (bdrew W2))
             clear hKq Kq
             try simp only [Act.put, List.getElem_toArray, List.getElem_cons_succ, List.getElem_cons_zero, List.setIfInBounds_toArray, List.set_cons_zero, List.set_cons_succ]
             refine wpAnyJ_ready (rs := [24]) (by kernel_rfl) (by simp) ?_
             refine AllReadyJ.cons (o := _) rfl (fun Kq hKq => ?_) ?_
             · go_simp
               have hal := balloc X (.cells #[.slice none 0 0, .int .i64 0, .int .i64 0] 27)
               have hZ := Box.new X 27 [.slice none 0 0, .int .i64 0, .int .i64 0]
               change Box (X.alloc (.cells #[.slice none 0 0, .int .i64 0, .int .i64 0] 27)) _ _ _ at hZ
               have hg12 := hbC.out.size
               have hne := Nat.ne_of_gt hC.lt
               replace hC := hC.below hal
               replace hP := seesB_of hP (Nat.le_refl _) hal
               replace hG := seesB_of hG (Nat.le_refl _) hal
               replace hbC := Lib.hid (bgo hbC.out hal)
               clear hal
               generalize X.heap.size = g12 at hZ hg12 hne ⊢
               generalize X.alloc (.cells #[.slice none 0 0, .int .i64 0, .int .i64 0] 27) = X at *
               refine hKq.out _ _ ?_ (fun hHeld => ?_)
               · intro _; (try dsimp only); (first | exact K.out _ hbC.out | exact K.out _ (bdrew W2))
               clear hKq Kq
               try simp only [Act.put, List.getElem_toArray, List.getElem_cons_succ, List.getElem_cons_zero, List.setIfInBounds_toArray, List.set_cons_zero, List.set_cons_succ]
               refine wpAnyJ_ready (rs := [26]) (by kernel_rfl) (by simp) ?_
               refine AllReadyJ.cons (o := _) rfl (fun Kq hKq => ?_) ?_
               · skip
                 obtain ⟨e0, e1, e2, j0, j1, j2⟩ := box3_cells hZ
                 go_simp
                 clear e0 e1 e2 j0 j1 j2
                 have hZ2 := lset3 hZ (.slice AV mV cV) (.int .i64 0) (.int .i64 1)
                 have hC2 := off3 hC hne (.slice AV mV cV) (.int .i64 0) (.int .i64 1)
                 have hP2 := sees_s3 hZ (noBL3' (NoB.s none 0 0) (NoB.i 0) (NoB.i 0)) (.slice AV mV cV) (.int .i64 0) (.int .i64 1) hP
                 have hG2 := sees_s3 hZ (noBL3' (NoB.s none 0 0) (NoB.i 0) (NoB.i 0)) (.slice AV mV cV) (.int .i64 0) (.int .i64 1) hG
                 have hb2 := ((hbC.out.setCell (p := ⟨g12, 0, none⟩) hg12 (.slice AV mV cV)).setCell (p := ⟨g12, 1, none⟩) hg12 (.int .i64 0)).setCell (p := ⟨g12, 2, none⟩) hg12 (.int .i64 1)
                 generalize ((X.setCell ⟨g12, 0, none⟩ (.slice AV mV cV)).setCell ⟨g12, 1, none⟩ (.int .i64 0)).setCell ⟨g12, 2, none⟩ (.int .i64 1) = Y at *
                 refine hKq.out _ _ ?_ (fun hHeld => ?_)
                 · intro hl; exact absurd hl (by decide)
                 clear hKq Kq
                 try simp only [Act.put, List.getElem_toArray, List.getElem_cons_succ, List.getElem_cons_zero, List.setIfInBounds_toArray, List.set_cons_zero, List.set_cons_succ]
                 refine wpAnyJ_ready (rs := [27]) (by kernel_rfl) (by simp) ?_
                 refine AllReadyJ.cons (o := _) rfl (fun Kq hKq => ?_) ?_
                 · skip
                   obtain ⟨e0, e1, e2, e3, e4⟩ := box5_cells hC2
                   have j0 := hC2.frozen 0
                   have j1 := hC2.frozen 1
                   have j2 := hC2.frozen 2
                   have j3 := hC2.frozen 3
                   have j4 := hC2.frozen 4
                   go_simp
                   refine hKq.out _ _ ?_ (fun hHeld => ?_)
                   · intro hl; exact absurd hl (by decide)
                   clear hKq Kq
                   try simp only [Act.put, List.getElem_toArray, List.getElem_cons_succ, List.getElem_cons_zero, List.setIfInBounds_toArray, List.set_cons_zero, List.set_cons_succ]
                   refine wpAnyJ_take0 (i := 28) (v := ?_) rfl (by kernel_rfl) (by kernel_rfl) (by kernel_rfl) (fun _ _ _ h => h) (by rfl) (Or.inl ⟨by rfl, ?_⟩) (by assumption) ?_
                   rotate_left 1
                   · intro w hSw; (try dsimp only at hSw); go_simp <;> (try with_reducible rfl)
                   try simp only [Act.put, List.getElem_toArray, List.getElem_cons_succ, List.getElem_cons_zero, List.setIfInBounds_toArray, List.set_cons_zero, List.set_cons_succ]
                   refine wpAnyJ_done (by kernel_rfl) ?_ _
                   clear e0 e1 e2 e3 e4 j0 j1 j2 j3 j4 hHeld
                   go_wp2_with fail
                   go_meet
                   exact cert_mid hC2 hg13 hP2 hG2 fP fG hb2
                 exact AllReadyJ.nil
               exact AllReadyJ.nil
             exact AllReadyJ.nil
           exact AllReadyJ.nil
         refine AllReadyJ.cons (o := _) rfl (fun Kq hKq => ?_) ?_
         · go_simp
           have hal := balloc X (.cells #[.slice none 0 0, .int .i64 0, .int .i64 0] 27)
           have hZ := Box.new X 27 [.slice none 0 0, .int .i64 0, .int .i64 0]
           change Box (X.alloc (.cells #[.slice none 0 0, .int .i64 0, .int .i64 0] 27)) _ _ _ at hZ
           have hg12 := hbC.out.size
           replace hbC := Lib.hid (bgo hbC.out hal)
           clear hal
           generalize X.heap.size = g12 at hZ hg12 ⊢
           generalize X.alloc (.cells #[.slice none 0 0, .int .i64 0, .int .i64 0] 27) = X at *
           refine hKq.out _ _ ?_ (fun hHeld => ?_)
           · intro _; (try dsimp only); (first | exact K.out _ hbC.out | exact K.out _ (bdrew W2))
           clear hKq Kq
           try simp only [Act.put, List.getElem_toArray, List.getElem_cons_succ, List.getElem_cons_zero, List.setIfInBounds_toArray, List.set_cons_zero, List.set_cons_succ]
           refine wpAnyJ_ready (rs := [19, 25]) (by kernel_rfl) (by simp) ?_
           refine AllReadyJ.cons (o := _) rfl (fun Kq hKq => ?_) ?_
           · go_simp
             go_at_call 50
             have hfz := hbC.out.size
             refine (hsg.out X hbC.out).mono ?_
             rintro e X ⟨vV, vP, vG, rfl, ⟨AV, mV, cV, rfl⟩, hP, hG, fP, fG, hal⟩
             obtain ⟨AP, cP, rfl, -, -⟩ := hP.mk_
             obtain ⟨AG, cG, rfl, -, -⟩ := hG.mk_
             replace hZ := hZ.below hal
             replace hbC := Lib.hid (bgo hbC.out hal)
             replace fP := fP.mono hfz
             replace fG := fG.mono hfz
             clear hal hfz
             go_wp2_with fail
             refine hKq.out _ _ ?_ (fun hHeld => ?_)
             · intro _; (try dsimp only); (first | exact K.out _ hbC.out | exact K.out _ (bdrew W2))
             clear hKq Kq
             try simp only [Act.put, List.getElem_toArray, List.getElem_cons_succ, List.getElem_cons_zero, List.setIfInBounds_toArray, List.set_cons_zero, List.set_cons_succ]
             refine wpAnyJ_take0 (i := 20) (v := ?_) rfl (by kernel_rfl) (by kernel_rfl) (by kernel_rfl) (fun _ _ _ h => h) (by rfl) (Or.inl ⟨by rfl, ?_⟩) (by assumption) ?_
             rotate_left 1
             · intro w hSw; (try dsimp only at hSw); go_simp <;> (try with_reducible rfl)
             try simp only [Act.put, List.getElem_toArray, List.getElem_cons_succ, List.getElem_cons_zero, List.setIfInBounds_toArray, List.set_cons_zero, List.set_cons_succ]
             refine wpAnyJ_take0 (i := 21) (v := ?_) rfl (by kernel_rfl) (by kernel_rfl) (by kernel_rfl) (fun _ _ _ h => h) (by rfl) (Or.inl ⟨by rfl, ?_⟩) (by assumption) ?_
             rotate_left 1
             · intro w hSw; (try dsimp only at hSw); go_simp <;> (try with_reducible rfl)
             try simp only [Act.put, List.getElem_toArray, List.getElem_cons_succ, List.getElem_cons_zero, List.setIfInBounds_toArray, List.set_cons_zero, List.set_cons_succ]
             refine wpAnyJ_take0 (i := 22) (v := ?_) rfl (by kernel_rfl) (by kernel_rfl) (by kernel_rfl) (fun _ _ _ h => h) (by rfl) (Or.inl ⟨by rfl, ?_⟩) (by assumption) ?_
             rotate_left 1
             · intro w hSw; (try dsimp only at hSw); go_simp <;> (try with_reducible rfl)
             try simp only [Act.put, List.getElem_toArray, List.getElem_cons_succ, List.getElem_cons_zero, List.setIfInBounds_toArray, List.set_cons_zero, List.set_cons_succ]
             refine wpAnyJ_take0 (i := 23) (v := ?_) rfl (by kernel_rfl) (by kernel_rfl) (by kernel_rfl) (fun _ _ _ h => h) (by rfl) (Or.inl ⟨by rfl, ?_⟩) (by assumption) ?_
             rotate_left 1
             · intro w hSw; (try dsimp only at hSw); go_simp <;> (try with_reducible rfl)
             try simp only [Act.put, List.getElem_toArray, List.getElem_cons_succ, List.getElem_cons_zero, List.setIfInBounds_toArray, List.set_cons_zero, List.set_cons_succ]
             refine wpAnyJ_ready (rs := [25]) (by kernel_rfl) (by simp) ?_
             refine AllReadyJ.cons (o := _) rfl (fun Kq hKq => ?_) ?_
             · go_simp
               have hal := balloc X (.cells #[.string { data := #[] }, .slice none 0 0, .int .i64 0, .int .i64 0, .slice none 0 0] 70)
               have hC := Box.new X 70 [.string { data := #[] }, .slice none 0 0, .int .i64 0, .int .i64 0, .slice none 0 0]
               change Box (X.alloc (.cells #[.string { data := #[] }, .slice none 0 0, .int .i64 0, .int .i64 0, .slice none 0 0] 70)) _ _ _ at hC
               have hg13 := hbC.out.size
               have hne := Nat.ne_of_lt hZ.lt
               replace hZ := hZ.below hal
               replace hP := seesB_of hP (Nat.le_refl _) hal
               replace hG := seesB_of hG (Nat.le_refl _) hal
               replace hbC := Lib.hid (bgo hbC.out hal)
               clear hal
               generalize X.heap.size = g13 at hC hg13 hne ⊢
               generalize X.alloc (.cells #[.string { data := #[] }, .slice none 0 0, .int .i64 0, .int .i64 0, .slice none 0 0] 70) = X at *
               refine hKq.out _ _ ?_ (fun hHeld => ?_)
               · intro _; (try dsimp only); (first | exact K.out _ hbC.out | exact K.out _ (bdrew W2))
               clear hKq Kq
               try simp only [Act.put, List.getElem_toArray, List.getElem_cons_succ, List.getElem_cons_zero, List.setIfInBounds_toArray, List.set_cons_zero, List.set_cons_succ]
               refine wpAnyJ_ready (rs := [26]) (by kernel_rfl) (by simp) ?_
               refine AllReadyJ.cons (o := _) rfl (fun Kq hKq => ?_) ?_
               · skip
                 obtain ⟨e0, e1, e2, j0, j1, j2⟩ := box3_cells hZ
                 go_simp
                 clear e0 e1 e2 j0 j1 j2
                 have hZ2 := lset3 hZ (.slice AV mV cV) (.int .i64 0) (.int .i64 1)
                 have hC2 := off3 hC hne (.slice AV mV cV) (.int .i64 0) (.int .i64 1)
                 have hP2 := sees_s3 hZ (noBL3' (NoB.s none 0 0) (NoB.i 0) (NoB.i 0)) (.slice AV mV cV) (.int .i64 0) (.int .i64 1) hP
                 have hG2 := sees_s3 hZ (noBL3' (NoB.s none 0 0) (NoB.i 0) (NoB.i 0)) (.slice AV mV cV) (.int .i64 0) (.int .i64 1) hG
                 have hb2 := ((hbC.out.setCell (p := ⟨g12, 0, none⟩) hg12 (.slice AV mV cV)).setCell (p := ⟨g12, 1, none⟩) hg12 (.int .i64 0)).setCell (p := ⟨g12, 2, none⟩) hg12 (.int .i64 1)
                 generalize ((X.setCell ⟨g12, 0, none⟩ (.slice AV mV cV)).setCell ⟨g12, 1, none⟩ (.int .i64 0)).setCell ⟨g12, 2, none⟩ (.int .i64 1) = Y at *
                 refine hKq.out _ _ ?_ (fun hHeld => ?_)
                 · intro hl; exact absurd hl (by decide)
                 clear hKq Kq
                 try simp only [Act.put, List.getElem_toArray, List.getElem_cons_succ, List.getElem_cons_zero, List.setIfInBounds_toArray, List.set_cons_zero, List.set_cons_succ]
                 refine wpAnyJ_ready (rs := [27]) (by kernel_rfl) (by simp) ?_
                 refine AllReadyJ.cons (o := _) rfl (fun Kq hKq => ?_) ?_
                 · skip
                   obtain ⟨e0, e1, e2, e3, e4⟩ := box5_cells hC2
                   have j0 := hC2.frozen 0
                   have j1 := hC2.frozen 1
                   have j2 := hC2.frozen 2
                   have j3 := hC2.frozen 3
                   have j4 := hC2.frozen 4
                   go_simp
                   refine hKq.out _ _ ?_ (fun hHeld => ?_)
                   · intro hl; exact absurd hl (by decide)
                   clear hKq Kq
                   try simp only [Act.put, List.getElem_toArray, List.getElem_cons_succ, List.getElem_cons_zero, List.setIfInBounds_toArray, List.set_cons_zero, List.set_cons_succ]
                   refine wpAnyJ_take0 (i := 28) (v := ?_) rfl (by kernel_rfl) (by kernel_rfl) (by kernel_rfl) (fun _ _ _ h => h) (by rfl) (Or.inl ⟨by rfl, ?_⟩) (by assumption) ?_
                   rotate_left 1
                   · intro w hSw; (try dsimp only at hSw); go_simp <;> (try with_reducible rfl)
                   try simp only [Act.put, List.getElem_toArray, List.getElem_cons_succ, List.getElem_cons_zero, List.setIfInBounds_toArray, List.set_cons_zero, List.set_cons_succ]
                   refine wpAnyJ_done (by kernel_rfl) ?_ _
                   clear e0 e1 e2 e3 e4 j0 j1 j2 j3 j4 hHeld
                   go_wp2_with fail
                   go_meet
                   exact cert_mid hC2 hg13 hP2 hG2 fP fG hb2
                 exact AllReadyJ.nil
               exact AllReadyJ.nil
             exact AllReadyJ.nil
           refine AllReadyJ.cons (o := _) rfl (fun Kq hKq => ?_) ?_
           · go_simp
             have hal := balloc X (.cells #[.string { data := #[] }, .slice none 0 0, .int .i64 0, .int .i64 0, .slice none 0 0] 70)
             have hC := Box.new X 70 [.string { data := #[] }, .slice none 0 0, .int .i64 0, .int .i64 0, .slice none 0 0]
             change Box (X.alloc (.cells #[.string { data := #[] }, .slice none 0 0, .int .i64 0, .int .i64 0, .slice none 0 0] 70)) _ _ _ at hC
             have hg13 := hbC.out.size
             have hne := Nat.ne_of_lt hZ.lt
             replace hZ := hZ.below hal
             replace hbC := Lib.hid (bgo hbC.out hal)
             clear hal
             generalize X.heap.size = g13 at hC hg13 hne ⊢
             generalize X.alloc (.cells #[.string { data := #[] }, .slice none 0 0, .int .i64 0, .int .i64 0, .slice none 0 0] 70) = X at *
             refine hKq.out _ _ ?_ (fun hHeld => ?_)
             · intro _; (try dsimp only); (first | exact K.out _ hbC.out | exact K.out _ (bdrew W2))
             clear hKq Kq
             try simp only [Act.put, List.getElem_toArray, List.getElem_cons_succ, List.getElem_cons_zero, List.setIfInBounds_toArray, List.set_cons_zero, List.set_cons_succ]
             refine wpAnyJ_ready (rs := [19]) (by kernel_rfl) (by simp) ?_
             refine AllReadyJ.cons (o := _) rfl (fun Kq hKq => ?_) ?_
             · go_simp
               go_at_call 50
               have hfz := hbC.out.size
               refine (hsg.out X hbC.out).mono ?_
               rintro e X ⟨vV, vP, vG, rfl, ⟨AV, mV, cV, rfl⟩, hP, hG, fP, fG, hal⟩
               obtain ⟨AP, cP, rfl, -, -⟩ := hP.mk_
               obtain ⟨AG, cG, rfl, -, -⟩ := hG.mk_
               replace hZ := hZ.below hal
               replace hC := hC.below hal
               replace hbC := Lib.hid (bgo hbC.out hal)
               replace fP := fP.mono hfz
               replace fG := fG.mono hfz
               clear hal hfz
               go_wp2_with fail
               refine hKq.out _ _ ?_ (fun hHeld => ?_)
               · intro _; (try dsimp only); (first | exact K.out _ hbC.out | exact K.out _ (bdrew W2))
               clear hKq Kq
               try simp only [Act.put, List.getElem_toArray, List.getElem_cons_succ, List.getElem_cons_zero, List.setIfInBounds_toArray, List.set_cons_zero, List.set_cons_succ]
               refine wpAnyJ_take0 (i := 20) (v := ?_) rfl (by kernel_rfl) (by kernel_rfl) (by kernel_rfl) (fun _ _ _ h => h) (by rfl) (Or.inl ⟨by rfl, ?_⟩) (by assumption) ?_
               rotate_left 1
               · intro w hSw; (try dsimp only at hSw); go_simp <;> (try with_reducible rfl)
               try simp only [Act.put, List.getElem_toArray, List.getElem_cons_succ, List.getElem_cons_zero, List.setIfInBounds_toArray, List.set_cons_zero, List.set_cons_succ]
               refine wpAnyJ_take0 (i := 21) (v := ?_) rfl (by kernel_rfl) (by kernel_rfl) (by kernel_rfl) (fun _ _ _ h => h) (by rfl) (Or.inl ⟨by rfl, ?_⟩) (by assumption) ?_
               rotate_left 1
               · intro w hSw; (try dsimp only at hSw); go_simp <;> (try with_reducible rfl)
               try simp only [Act.put, List.getElem_toArray, List.getElem_cons_succ, List.getElem_cons_zero, List.setIfInBounds_toArray, List.set_cons_zero, List.set_cons_succ]
               refine wpAnyJ_take0 (i := 22) (v := ?_) rfl (by kernel_rfl) (by kernel_rfl) (by kernel_rfl) (fun _ _ _ h => h) (by rfl) (Or.inl ⟨by rfl, ?_⟩) (by assumption) ?_
               rotate_left 1
               · intro w hSw; (try dsimp only at hSw); go_simp <;> (try with_reducible rfl)
               try simp only [Act.put, List.getElem_toArray, List.getElem_cons_succ, List.getElem_cons_zero, List.setIfInBounds_toArray, List.set_cons_zero, List.set_cons_succ]
               refine wpAnyJ_take0 (i := 23) (v := ?_) rfl (by kernel_rfl) (by kernel_rfl) (by kernel_rfl) (fun _ _ _ h => h) (by rfl) (Or.inl ⟨by rfl, ?_⟩) (by assumption) ?_
               rotate_left 1
               · intro w hSw; (try dsimp only at hSw); go_simp <;> (try with_reducible rfl)
               try simp only [Act.put, List.getElem_toArray, List.getElem_cons_succ, List.getElem_cons_zero, List.setIfInBounds_toArray, List.set_cons_zero, List.set_cons_succ]
               refine wpAnyJ_ready (rs := [26]) (by kernel_rfl) (by simp) ?_
               refine AllReadyJ.cons (o := _) rfl (fun Kq hKq => ?_) ?_
               · skip
                 obtain ⟨e0, e1, e2, j0, j1, j2⟩ := box3_cells hZ
                 go_simp
                 clear e0 e1 e2 j0 j1 j2
                 have hZ2 := lset3 hZ (.slice AV mV cV) (.int .i64 0) (.int .i64 1)
                 have hC2 := off3 hC hne (.slice AV mV cV) (.int .i64 0) (.int .i64 1)
                 have hP2 := sees_s3 hZ (noBL3' (NoB.s none 0 0) (NoB.i 0) (NoB.i 0)) (.slice AV mV cV) (.int .i64 0) (.int .i64 1) hP
                 have hG2 := sees_s3 hZ (noBL3' (NoB.s none 0 0) (NoB.i 0) (NoB.i 0)) (.slice AV mV cV) (.int .i64 0) (.int .i64 1) hG
                 have hb2 := ((hbC.out.setCell (p := ⟨g12, 0, none⟩) hg12 (.slice AV mV cV)).setCell (p := ⟨g12, 1, none⟩) hg12 (.int .i64 0)).setCell (p := ⟨g12, 2, none⟩) hg12 (.int .i64 1)
                 generalize ((X.setCell ⟨g12, 0, none⟩ (.slice AV mV cV)).setCell ⟨g12, 1, none⟩ (.int .i64 0)).setCell ⟨g12, 2, none⟩ (.int .i64 1) = Y at *
                 refine hKq.out _ _ ?_ (fun hHeld => ?_)
                 · intro hl; exact absurd hl (by decide)
                 clear hKq Kq
                 try simp only [Act.put, List.getElem_toArray, List.getElem_cons_succ, List.getElem_cons_zero, List.setIfInBounds_toArray, List.set_cons_zero, List.set_cons_succ]
                 refine wpAnyJ_ready (rs := [27]) (by kernel_rfl) (by simp) ?_
                 refine AllReadyJ.cons (o := _) rfl (fun Kq hKq => ?_) ?_
                 · skip
                   obtain ⟨e0, e1, e2, e3, e4⟩ := box5_cells hC2
                   have j0 := hC2.frozen 0
                   have j1 := hC2.frozen 1
                   have j2 := hC2.frozen 2
                   have j3 := hC2.frozen 3
                   have j4 := hC2.frozen 4
                   go_simp
                   refine hKq.out _ _ ?_ (fun hHeld => ?_)
                   · intro hl; exact absurd hl (by decide)
                   clear hKq Kq
                   try simp only [Act.put, List.getElem_toArray, List.getElem_cons_succ, List.getElem_cons_zero, List.setIfInBounds_toArray, List.set_cons_zero, List.set_cons_succ]
                   refine wpAnyJ_take0 (i := 28) (v := ?_) rfl (by kernel_rfl) (by kernel_rfl) (by kernel_rfl) (fun _ _ _ h => h) (by rfl) (Or.inl ⟨by rfl, ?_⟩) (by assumption) ?_
                   rotate_left 1
                   · intro w hSw; (try dsimp only at hSw); go_simp <;> (try with_reducible rfl)
                   try simp only [Act.put, List.getElem_toArray, List.getElem_cons_succ, List.getElem_cons_zero, List.setIfInBounds_toArray, List.set_cons_zero, List.set_cons_succ]
                   refine wpAnyJ_done (by kernel_rfl) ?_ _
                   clear e0 e1 e2 e3 e4 j0 j1 j2 j3 j4 hHeld
                   go_wp2_with fail
                   go_meet
                   exact cert_mid hC2 hg13 hP2 hG2 fP fG hb2
                 exact AllReadyJ.nil
               exact AllReadyJ.nil
             exact AllReadyJ.nil
           exact AllReadyJ.nil
         refine AllReadyJ.cons (o := _) rfl (fun Kq hKq => ?_) ?_
         · go_simp
           have hal := balloc X (.cells #[.string { data := #[] }, .slice none 0 0, .int .i64 0, .int .i64 0, .slice none 0 0] 70)
           have hC := Box.new X 70 [.string { data := #[] }, .slice none 0 0, .int .i64 0, .int .i64 0, .slice none 0 0]
           change Box (X.alloc (.cells #[.string { data := #[] }, .slice none 0 0, .int .i64 0, .int .i64 0, .slice none 0 0] 70)) _ _ _ at hC
           have hg13 := hbC.out.size
           replace hbC := Lib.hid (bgo hbC.out hal)
           clear hal
           generalize X.heap.size = g13 at hC hg13 ⊢
           generalize X.alloc (.cells #[.string { data := #[] }, .slice none 0 0, .int .i64 0, .int .i64 0, .slice none 0 0] 70) = X at *
           refine hKq.out _ _ ?_ (fun hHeld => ?_)
           · intro _; (try dsimp only); (first | exact K.out _ hbC.out | exact K.out _ (bdrew W2))
           clear hKq Kq
           try simp only [Act.put, List.getElem_toArray, List.getElem_cons_succ, List.getElem_cons_zero, List.setIfInBounds_toArray, List.set_cons_zero, List.set_cons_succ]
           refine wpAnyJ_ready (rs := [19, 24]) (by kernel_rfl) (by simp) ?_
           refine AllReadyJ.cons (o := _) rfl (fun Kq hKq => ?_) ?_
           · go_simp
             go_at_call 50
             have hfz := hbC.out.size
             refine (hsg.out X hbC.out).mono ?_
             rintro e X ⟨vV, vP, vG, rfl, ⟨AV, mV, cV, rfl⟩, hP, hG, fP, fG, hal⟩
             obtain ⟨AP, cP, rfl, -, -⟩ := hP.mk_
             obtain ⟨AG, cG, rfl, -, -⟩ := hG.mk_
             replace hC := hC.below hal
             replace hbC := Lib.hid (bgo hbC.out hal)
             replace fP := fP.mono hfz
             replace fG := fG.mono hfz
             clear hal hfz
             go_wp2_with fail
             refine hKq.out _ _ ?_ (fun hHeld => ?_)
             · intro _; (try dsimp only); (first | exact K.out _ hbC.out | exact K.out _ (bdrew W2))
             clear hKq Kq
             try simp only [Act.put, List.getElem_toArray, List.getElem_cons_succ, List.getElem_cons_zero, List.setIfInBounds_toArray, List.set_cons_zero, List.set_cons_succ]
             refine wpAnyJ_take0 (i := 20) (v := ?_) rfl (by kernel_rfl) (by kernel_rfl) (by kernel_rfl) (fun _ _ _ h => h) (by rfl) (Or.inl ⟨by rfl, ?_⟩) (by assumption) ?_
             rotate_left 1
             · intro w hSw; (try dsimp only at hSw); go_simp <;> (try with_reducible rfl)
             try simp only [Act.put, List.getElem_toArray, List.getElem_cons_succ, List.getElem_cons_zero, List.setIfInBounds_toArray, List.set_cons_zero, List.set_cons_succ]
             refine wpAnyJ_take0 (i := 21) (v := ?_) rfl (by kernel_rfl) (by kernel_rfl) (by kernel_rfl) (fun _ _ _ h => h) (by rfl) (Or.inl ⟨by rfl, ?_⟩) (by assumption) ?_
             rotate_left 1
             · intro w hSw; (try dsimp only at hSw); go_simp <;> (try with_reducible rfl)
             try simp only [Act.put, List.getElem_toArray, List.getElem_cons_succ, List.getElem_cons_zero, List.setIfInBounds_toArray, List.set_cons_zero, List.set_cons_succ]
             refine wpAnyJ_take0 (i := 22) (v := ?_) rfl (by kernel_rfl) (by kernel_rfl) (by kernel_rfl) (fun _ _ _ h => h) (by rfl) (Or.inl ⟨by rfl, ?_⟩) (by assumption) ?_
             rotate_left 1
             · intro w hSw; (try dsimp only at hSw); go_simp <;> (try with_reducible rfl)
             try simp only [Act.put, List.getElem_toArray, List.getElem_cons_succ, List.getElem_cons_zero, List.setIfInBounds_toArray, List.set_cons_zero, List.set_cons_succ]
             refine wpAnyJ_take0 (i := 23) (v := ?_) rfl (by kernel_rfl) (by kernel_rfl) (by kernel_rfl) (fun _ _ _ h => h) (by rfl) (Or.inl ⟨by rfl, ?_⟩) (by assumption) ?_
             rotate_left 1
             · intro w hSw; (try dsimp only at hSw); go_simp <;> (try with_reducible rfl)
             try simp only [Act.put, List.getElem_toArray, List.getElem_cons_succ, List.getElem_cons_zero, List.setIfInBounds_toArray, List.set_cons_zero, List.set_cons_succ]
             refine wpAnyJ_ready (rs := [24]) (by kernel_rfl) (by simp) ?_
             refine AllReadyJ.cons (o := _) rfl (fun Kq hKq => ?_) ?_
             · go_simp
               have hal := balloc X (.cells #[.slice none 0 0, .int .i64 0, .int .i64 0] 27)
               have hZ := Box.new X 27 [.slice none 0 0, .int .i64 0, .int .i64 0]
               change Box (X.alloc (.cells #[.slice none 0 0, .int .i64 0, .int .i64 0] 27)) _ _ _ at hZ
               have hg12 := hbC.out.size
               have hne := Nat.ne_of_gt hC.lt
               replace hC := hC.below hal
               replace hP := seesB_of hP (Nat.le_refl _) hal
               replace hG := seesB_of hG (Nat.le_refl _) hal
               replace hbC := Lib.hid (bgo hbC.out hal)
               clear hal
               generalize X.heap.size = g12 at hZ hg12 hne ⊢
               generalize X.alloc (.cells #[.slice none 0 0, .int .i64 0, .int .i64 0] 27) = X at *
               refine hKq.out _ _ ?_ (fun hHeld => ?_)
               · intro _; (try dsimp only); (first | exact K.out _ hbC.out | exact K.out _ (bdrew W2))
               clear hKq Kq
               try simp only [Act.put, List.getElem_toArray, List.getElem_cons_succ, List.getElem_cons_zero, List.setIfInBounds_toArray, List.set_cons_zero, List.set_cons_succ]
               refine wpAnyJ_ready (rs := [26]) (by kernel_rfl) (by simp) ?_
               refine AllReadyJ.cons (o := _) rfl (fun Kq hKq => ?_) ?_
               · skip
                 obtain ⟨e0, e1, e2, j0, j1, j2⟩ := box3_cells hZ
                 go_simp
                 clear e0 e1 e2 j0 j1 j2
                 have hZ2 := lset3 hZ (.slice AV mV cV) (.int .i64 0) (.int .i64 1)
                 have hC2 := off3 hC hne (.slice AV mV cV) (.int .i64 0) (.int .i64 1)
                 have hP2 := sees_s3 hZ (noBL3' (NoB.s none 0 0) (NoB.i 0) (NoB.i 0)) (.slice AV mV cV) (.int .i64 0) (.int .i64 1) hP
                 have hG2 := sees_s3 hZ (noBL3' (NoB.s none 0 0) (NoB.i 0) (NoB.i 0)) (.slice AV mV cV) (.int .i64 0) (.int .i64 1) hG
                 have hb2 := ((hbC.out.setCell (p := ⟨g12, 0, none⟩) hg12 (.slice AV mV cV)).setCell (p := ⟨g12, 1, none⟩) hg12 (.int .i64 0)).setCell (p := ⟨g12, 2, none⟩) hg12 (.int .i64 1)
                 generalize ((X.setCell ⟨g12, 0, none⟩ (.slice AV mV cV)).setCell ⟨g12, 1, none⟩ (.int .i64 0)).setCell ⟨g12, 2, none⟩ (.int .i64 1) = Y at *
                 refine hKq.out _ _ ?_ (fun hHeld => ?_)
                 · intro hl; exact absurd hl (by decide)
                 clear hKq Kq
                 try simp only [Act.put, List.getElem_toArray, List.getElem_cons_succ, List.getElem_cons_zero, List.setIfInBounds_toArray, List.set_cons_zero, List.set_cons_succ]
                 refine wpAnyJ_ready (rs := [27]) (by kernel_rfl) (by simp) ?_
                 refine AllReadyJ.cons (o := _) rfl (fun Kq hKq => ?_) ?_
                 · skip
                   obtain ⟨e0, e1, e2, e3, e4⟩ := box5_cells hC2
                   have j0 := hC2.frozen 0
                   have j1 := hC2.frozen 1
                   have j2 := hC2.frozen 2
                   have j3 := hC2.frozen 3
                   have j4 := hC2.frozen 4
                   go_simp
                   refine hKq.out _ _ ?_ (fun hHeld => ?_)
                   · intro hl; exact absurd hl (by decide)
                   clear hKq Kq
                   try simp only [Act.put, List.getElem_toArray, List.getElem_cons_succ, List.getElem_cons_zero, List.setIfInBounds_toArray, List.set_cons_zero, List.set_cons_succ]
                   refine wpAnyJ_take0 (i := 28) (v := ?_) rfl (by kernel_rfl) (by kernel_rfl) (by kernel_rfl) (fun _ _ _ h => h) (by rfl) (Or.inl ⟨by rfl, ?_⟩) (by assumption) ?_
                   rotate_left 1
                   · intro w hSw; (try dsimp only at hSw); go_simp <;> (try with_reducible rfl)
                   try simp only [Act.put, List.getElem_toArray, List.getElem_cons_succ, List.getElem_cons_zero, List.setIfInBounds_toArray, List.set_cons_zero, List.set_cons_succ]
                   refine wpAnyJ_done (by kernel_rfl) ?_ _
                   clear e0 e1 e2 e3 e4 j0 j1 j2 j3 j4 hHeld
                   go_wp2_with fail
                   go_meet
                   exact cert_mid hC2 hg13 hP2 hG2 fP fG hb2
                 exact AllReadyJ.nil
               exact AllReadyJ.nil
             exact AllReadyJ.nil
           refine AllReadyJ.cons (o := _) rfl (fun Kq hKq => ?_) ?_
           · go_simp
             have hal := balloc X (.cells #[.slice none 0 0, .int .i64 0, .int .i64 0] 27)
             have hZ := Box.new X 27 [.slice none 0 0, .int .i64 0, .int .i64 0]
             change Box (X.alloc (.cells #[.slice none 0 0, .int .i64 0, .int .i64 0] 27)) _ _ _ at hZ
             have hg12 := hbC.out.size
             have hne := Nat.ne_of_gt hC.lt
             replace hC := hC.below hal
             replace hbC := Lib.hid (bgo hbC.out hal)
             clear hal
             generalize X.heap.size = g12 at hZ hg12 hne ⊢
             generalize X.alloc (.cells #[.slice none 0 0, .int .i64 0, .int .i64 0] 27) = X at *
             refine hKq.out _ _ ?_ (fun hHeld => ?_)
             · intro _; (try dsimp only); (first | exact K.out _ hbC.out | exact K.out _ (bdrew W2))
             clear hKq Kq
             try simp only [Act.put, List.getElem_toArray, List.getElem_cons_succ, List.getElem_cons_zero, List.setIfInBounds_toArray, List.set_cons_zero, List.set_cons_succ]
             refine wpAnyJ_ready (rs := [19]) (by kernel_rfl) (by simp) ?_
             refine AllReadyJ.cons (o := _) rfl (fun Kq hKq => ?_) ?_
             · go_simp
               go_at_call 50
               have hfz := hbC.out.size
               refine (hsg.out X hbC.out).mono ?_
               rintro e X ⟨vV, vP, vG, rfl, ⟨AV, mV, cV, rfl⟩, hP, hG, fP, fG, hal⟩
               obtain ⟨AP, cP, rfl, -, -⟩ := hP.mk_
               obtain ⟨AG, cG, rfl, -, -⟩ := hG.mk_
               replace hZ := hZ.below hal
               replace hC := hC.below hal
               replace hbC := Lib.hid (bgo hbC.out hal)
               replace fP := fP.mono hfz
               replace fG := fG.mono hfz
               clear hal hfz
               go_wp2_with fail
               refine hKq.out _ _ ?_ (fun hHeld => ?_)
               · intro _; (try dsimp only); (first | exact K.out _ hbC.out | exact K.out _ (bdrew W2))
               clear hKq Kq
               try simp only [Act.put, List.getElem_toArray, List.getElem_cons_succ, List.getElem_cons_zero, List.setIfInBounds_toArray, List.set_cons_zero, List.set_cons_succ]
               refine wpAnyJ_take0 (i := 20) (v := ?_) rfl (by kernel_rfl) (by kernel_rfl) (by kernel_rfl) (fun _ _ _ h => h) (by rfl) (Or.inl ⟨by rfl, ?_⟩) (by assumption) ?_
               rotate_left 1
               · intro w hSw; (try dsimp only at hSw); go_simp <;> (try with_reducible rfl)
               try simp only [Act.put, List.getElem_toArray, List.getElem_cons_succ, List.getElem_cons_zero, List.setIfInBounds_toArray, List.set_cons_zero, List.set_cons_succ]
               refine wpAnyJ_take0 (i := 21) (v := ?_) rfl (by kernel_rfl) (by kernel_rfl) (by kernel_rfl) (fun _ _ _ h => h) (by rfl) (Or.inl ⟨by rfl, ?_⟩) (by assumption) ?_
               rotate_left 1
               · intro w hSw; (try dsimp only at hSw); go_simp <;> (try with_reducible rfl)
               try simp only [Act.put, List.getElem_toArray, List.getElem_cons_succ, List.getElem_cons_zero, List.setIfInBounds_toArray, List.set_cons_zero, List.set_cons_succ]
               refine wpAnyJ_take0 (i := 22) (v := ?_) rfl (by kernel_rfl) (by kernel_rfl) (by kernel_rfl) (fun _ _ _ h => h) (by rfl) (Or.inl ⟨by rfl, ?_⟩) (by assumption) ?_
               rotate_left 1
               · intro w hSw; (try dsimp only at hSw); go_simp <;> (try with_reducible rfl)
               try simp only [Act.put, List.getElem_toArray, List.getElem_cons_succ, List.getElem_cons_zero, List.setIfInBounds_toArray, List.set_cons_zero, List.set_cons_succ]
               refine wpAnyJ_take0 (i := 23) (v := ?_) rfl (by kernel_rfl) (by kernel_rfl) (by kernel_rfl) (fun _ _ _ h => h) (by rfl) (Or.inl ⟨by rfl, ?_⟩) (by assumption) ?_
               rotate_left 1
               · intro w hSw; (try dsimp only at hSw); go_simp <;> (try with_reducible rfl)
               try simp only [Act.put, List.getElem_toArray, List.getElem_cons_succ, List.getElem_cons_zero, List.setIfInBounds_toArray, List.set_cons_zero, List.set_cons_succ]
               refine wpAnyJ_ready (rs := [26]) (by kernel_rfl) (by simp) ?_
               refine AllReadyJ.cons (o := _) rfl (fun Kq hKq => ?_) ?_
               · skip
                 obtain ⟨e0, e1, e2, j0, j1, j2⟩ := box3_cells hZ
                 go_simp
                 clear e0 e1 e2 j0 j1 j2
                 have hZ2 := lset3 hZ (.slice AV mV cV) (.int .i64 0) (.int .i64 1)
                 have hC2 := off3 hC hne (.slice AV mV cV) (.int .i64 0) (.int .i64 1)
                 have hP2 := sees_s3 hZ (noBL3' (NoB.s none 0 0) (NoB.i 0) (NoB.i 0)) (.slice AV mV cV) (.int .i64 0) (.int .i64 1) hP
                 have hG2 := sees_s3 hZ (noBL3' (NoB.s none 0 0) (NoB.i 0) (NoB.i 0)) (.slice AV mV cV) (.int .i64 0) (.int .i64 1) hG
                 have hb2 := ((hbC.out.setCell (p := ⟨g12, 0, none⟩) hg12 (.slice AV mV cV)).setCell (p := ⟨g12, 1, none⟩) hg12 (.int .i64 0)).setCell (p := ⟨g12, 2, none⟩) hg12 (.int .i64 1)
                 generalize ((X.setCell ⟨g12, 0, none⟩ (.slice AV mV cV)).setCell ⟨g12, 1, none⟩ (.int .i64 0)).setCell ⟨g12, 2, none⟩ (.int .i64 1) = Y at *
                 refine hKq.out _ _ ?_ (fun hHeld => ?_)
                 · intro hl; exact absurd hl (by decide)
                 clear hKq Kq
                 try simp only [Act.put, List.getElem_toArray, List.getElem_cons_succ, List.getElem_cons_zero, List.setIfInBounds_toArray, List.set_cons_zero, List.set_cons_succ]
                 refine wpAnyJ_ready (rs := [27]) (by kernel_rfl) (by simp) ?_
                 refine AllReadyJ.cons (o := _) rfl (fun Kq hKq => ?_) ?_
                 · skip
                   obtain ⟨e0, e1, e2, e3, e4⟩ := box5_cells hC2
                   have j0 := hC2.frozen 0
                   have j1 := hC2.frozen 1
                   have j2 := hC2.frozen 2
                   have j3 := hC2.frozen 3
                   have j4 := hC2.frozen 4
                   go_simp
                   refine hKq.out _ _ ?_ (fun hHeld => ?_)
                   · intro hl; exact absurd hl (by decide)
                   clear hKq Kq
                   try simp only [Act.put, List.getElem_toArray, List.getElem_cons_succ, List.getElem_cons_zero, List.setIfInBounds_toArray, List.set_cons_zero, List.set_cons_succ]
                   refine wpAnyJ_take0 (i := 28) (v := ?_) rfl (by kernel_rfl) (by kernel_rfl) (by kernel_rfl) (fun _ _ _ h => h) (by rfl) (Or.inl ⟨by rfl, ?_⟩) (by assumption) ?_
                   rotate_left 1
                   · intro w hSw; (try dsimp only at hSw); go_simp <;> (try with_reducible rfl)
                   try simp only [Act.put, List.getElem_toArray, List.getElem_cons_succ, List.getElem_cons_zero, List.setIfInBounds_toArray, List.set_cons_zero, List.set_cons_succ]
                   refine wpAnyJ_done (by kernel_rfl) ?_ _
                   clear e0 e1 e2 e3 e4 j0 j1 j2 j3 j4 hHeld
                   go_wp2_with fail
                   go_meet
                   exact cert_mid hC2 hg13 hP2 hG2 fP fG hb2
                 exact AllReadyJ.nil
               exact AllReadyJ.nil
             exact AllReadyJ.nil
           exact AllReadyJ.nil
         exact AllReadyJ.nil
       refine AllReadyJ.cons (o := _) rfl (fun Kq hKq => ?_) ?_
       · go_simp
         have hal := balloc X (.cells #[.slice none 0 0, .int .i64 0, .int .i64 0] 27)
         have hZ := Box.new X 27 [.slice none 0 0, .int .i64 0, .int .i64 0]
         change Box (X.alloc (.cells #[.slice none 0 0, .int .i64 0, .int .i64 0] 27)) _ _ _ at hZ
         have hg12 := hbC.out.size
         replace hB := hB.below hal
         replace hbC := Lib.hid (bgo hbC.out hal)
         clear hal
         generalize X.heap.size = g12 at hZ hg12 ⊢
         generalize X.alloc (.cells #[.slice none 0 0, .int .i64 0, .int .i64 0] 27) = X at *
         refine hKq.out _ _ ?_ (fun hHeld => ?_)
         · intro _; (try dsimp only); (first | exact K.out _ hbC.out | exact K.out _ (bdrew W2))
         clear hKq Kq
         try simp only [Act.put, List.getElem_toArray, List.getElem_cons_succ, List.getElem_cons_zero, List.setIfInBounds_toArray, List.set_cons_zero, List.set_cons_succ]
         refine wpAnyJ_ready (rs := [5, 25]) (by kernel_rfl) (by simp) ?_
         refine AllReadyJ.cons (o := _) rfl (fun Kq hKq => ?_) ?_
         · skip
           have hcv := hstr.out X gB (hB.cell 0)
           go_simp
           clear hB hcv
           refine hKq.out _ _ ?_ (fun hHeld => ?_)
           · intro _; (try dsimp only); (first | exact K.out _ hbC.out | exact K.out _ (bdrew W2))
           clear hKq Kq
           try simp only [Act.put, List.getElem_toArray, List.getElem_cons_succ, List.getElem_cons_zero, List.setIfInBounds_toArray, List.set_cons_zero, List.set_cons_succ]
           refine wpAnyJ_take0 (i := 6) (v := ?_) rfl (by kernel_rfl) (by kernel_rfl) (by kernel_rfl) (fun _ _ _ h => h) (by rfl) (Or.inl ⟨by rfl, ?_⟩) (by assumption) ?_
           rotate_left 1
           · intro w hSw; (try dsimp only at hSw); go_simp <;> (try with_reducible rfl)
           try simp only [Act.put, List.getElem_toArray, List.getElem_cons_succ, List.getElem_cons_zero, List.setIfInBounds_toArray, List.set_cons_zero, List.set_cons_succ]
           refine wpAnyJ_take0 (i := 18) (v := ?_) rfl (by kernel_rfl) (by kernel_rfl) (by kernel_rfl) (fun _ _ _ h => h) (by rfl) (Or.inl ⟨by rfl, ?_⟩) (by assumption) ?_
           rotate_left 1
           · intro w hSw; (try dsimp only at hSw); go_simp <;> (try with_reducible rfl)
           try simp only [Act.put, List.getElem_toArray, List.getElem_cons_succ, List.getElem_cons_zero, List.setIfInBounds_toArray, List.set_cons_zero, List.set_cons_succ]
           refine wpAnyJ_ready (rs := [19, 25]) (by kernel_rfl) (by simp) ?_
           refine AllReadyJ.cons (o := _) rfl (fun Kq hKq => ?_) ?_
           · go_simp
             go_at_call 50
             have hfz := hbC.out.size
             refine (hsg.out X hbC.out).mono ?_
             rintro e X ⟨vV, vP, vG, rfl, ⟨AV, mV, cV, rfl⟩, hP, hG, fP, fG, hal⟩
             obtain ⟨AP, cP, rfl, -, -⟩ := hP.mk_
             obtain ⟨AG, cG, rfl, -, -⟩ := hG.mk_
             replace hZ := hZ.below hal
             replace hbC := Lib.hid (bgo hbC.out hal)
             replace fP := fP.mono hfz
             replace fG := fG.mono hfz
             clear hal hfz
             go_wp2_with fail
             refine hKq.out _ _ ?_ (fun hHeld => ?_)
             · intro _; (try dsimp only); (first | exact K.out _ hbC.out | exact K.out _ (bdrew W2))
             clear hKq Kq
             try simp only [Act.put, List.getElem_toArray, List.getElem_cons_succ, List.getElem_cons_zero, List.setIfInBounds_toArray, List.set_cons_zero, List.set_cons_succ]
             refine wpAnyJ_take0 (i := 20) (v := ?_) rfl (by kernel_rfl) (by kernel_rfl) (by kernel_rfl) (fun _ _ _ h => h) (by rfl) (Or.inl ⟨by rfl, ?_⟩) (by assumption) ?_
             rotate_left 1
             · intro w hSw; (try dsimp only at hSw); go_simp <;> (try with_reducible rfl)
             try simp only [Act.put, List.getElem_toArray, List.getElem_cons_succ, List.getElem_cons_zero, List.setIfInBounds_toArray, List.set_cons_zero, List.set_cons_succ]
             refine wpAnyJ_take0 (i := 21) (v := ?_) rfl (by kernel_rfl) (by kernel_rfl) (by kernel_rfl) (fun _ _ _ h => h) (by rfl) (Or.inl ⟨by rfl, ?_⟩) (by assumption) ?_
             rotate_left 1
             · intro w hSw; (try dsimp only at hSw); go_simp <;> (try with_reducible rfl)
             try simp only [Act.put, List.getElem_toArray, List.getElem_cons_succ, List.getElem_cons_zero, List.setIfInBounds_toArray, List.set_cons_zero, List.set_cons_succ]
             refine wpAnyJ_take0 (i := 22) (v := ?_) rfl (by kernel_rfl) (by kernel_rfl) (by kernel_rfl) (fun _ _ _ h => h) (by rfl) (Or.inl ⟨by rfl, ?_⟩) (by assumption) ?_
             rotate_left 1
             · intro w hSw; (try dsimp only at hSw); go_simp <;> (try with_reducible rfl)
             try simp only [Act.put, List.getElem_toArray, List.getElem_cons_succ, List.getElem_cons_zero, List.setIfInBounds_toArray, List.set_cons_zero, List.set_cons_succ]
             refine wpAnyJ_take0 (i := 23) (v := ?_) rfl (by kernel_rfl) (by kernel_rfl) (by kernel_rfl) (fun _ _ _ h => h) (by rfl) (Or.inl ⟨by rfl, ?_⟩) (by assumption) ?_
             rotate_left 1
             · intro w hSw; (try dsimp only at hSw); go_simp <;> (try with_reducible rfl)
             try simp only [Act.put, List.getElem_toArray, List.getElem_cons_succ, List.getElem_cons_zero, List.setIfInBounds_toArray, List.set_cons_zero, List.set_cons_succ]
             refine wpAnyJ_ready (rs := [25]) (by kernel_rfl) (by simp) ?_
             refine AllReadyJ.cons (o := _) rfl (fun Kq hKq => ?_) ?_
             · go_simp
               have hal := balloc X (.cells #[.string { data := #[] }, .slice none 0 0, .int .i64 0, .int .i64 0, .slice none 0 0] 70)
               have hC := Box.new X 70 [.string { data := #[] }, .slice none 0 0, .int .i64 0, .int .i64 0, .slice none 0 0]
               change Box (X.alloc (.cells #[.string { data := #[] }, .slice none 0 0, .int .i64 0, .int .i64 0, .slice none 0 0] 70)) _ _ _ at hC
               have hg13 := hbC.out.size
               have hne := Nat.ne_of_lt hZ.lt
               replace hZ := hZ.below hal
               replace hP := seesB_of hP (Nat.le_refl _) hal
               replace hG := seesB_of hG (Nat.le_refl _) hal
               replace hbC := Lib.hid (bgo hbC.out hal)
               clear hal
               generalize X.heap.size = g13 at hC hg13 hne ⊢
               generalize X.alloc (.cells #[.string { data := #[] }, .slice none 0 0, .int .i64 0, .int .i64 0, .slice none 0 0] 70) = X at *
               refine hKq.out _ _ ?_ (fun hHeld => ?_)
               · intro _; (try dsimp only); (first | exact K.out _ hbC.out | exact K.out _ (bdrew W2))
               clear hKq Kq
               try simp only [Act.put, List.getElem_toArray, List.getElem_cons_succ, List.getElem_cons_zero, List.setIfInBounds_toArray, List.set_cons_zero, List.set_cons_succ]
               refine wpAnyJ_ready (rs := [26]) (by kernel_rfl) (by simp) ?_
               refine AllReadyJ.cons (o := _) rfl (fun Kq hKq => ?_) ?_
               · skip
                 obtain ⟨e0, e1, e2, j0, j1, j2⟩ := box3_cells hZ
                 go_simp
                 clear e0 e1 e2 j0 j1 j2
                 have hZ2 := lset3 hZ (.slice AV mV cV) (.int .i64 0) (.int .i64 1)
                 have hC2 := off3 hC hne (.slice AV mV cV) (.int .i64 0) (.int .i64 1)
                 have hP2 := sees_s3 hZ (noBL3' (NoB.s none 0 0) (NoB.i 0) (NoB.i 0)) (.slice AV mV cV) (.int .i64 0) (.int .i64 1) hP
                 have hG2 := sees_s3 hZ (noBL3' (NoB.s none 0 0) (NoB.i 0) (NoB.i 0)) (.slice AV mV cV) (.int .i64 0) (.int .i64 1) hG
                 have hb2 := ((hbC.out.setCell (p := ⟨g12, 0, none⟩) hg12 (.slice AV mV cV)).setCell (p := ⟨g12, 1, none⟩) hg12 (.int .i64 0)).setCell (p := ⟨g12, 2, none⟩) hg12 (.int .i64 1)
                 generalize ((X.setCell ⟨g12, 0, none⟩ (.slice AV mV cV)).setCell ⟨g12, 1, none⟩ (.int .i64 0)).setCell ⟨g12, 2, none⟩ (.int .i64 1) = Y at *
                 refine hKq.out _ _ ?_ (fun hHeld => ?_)
                 · intro hl; exact absurd hl (by decide)
                 clear hKq Kq
                 try simp only [Act.put, List.getElem_toArray, List.getElem_cons_succ, List.getElem_cons_zero, List.setIfInBounds_toArray, List.set_cons_zero, List.set_cons_succ]
                 refine wpAnyJ_ready (rs := [27]) (by kernel_rfl) (by simp) ?_
                 refine AllReadyJ.cons (o := _) rfl (fun Kq hKq => ?_) ?_
                 · skip
                   obtain ⟨e0, e1, e2, e3, e4⟩ := box5_cells hC2
                   have j0 := hC2.frozen 0
                   have j1 := hC2.frozen 1
                   have j2 := hC2.frozen 2
                   have j3 := hC2.frozen 3
                   have j4 := hC2.frozen 4
                   go_simp
                   refine hKq.out _ _ ?_ (fun hHeld => ?_)
                   · intro hl; exact absurd hl (by decide)
                   clear hKq Kq
                   try simp only [Act.put, List.getElem_toArray, List.getElem_cons_succ, List.getElem_cons_zero, List.setIfInBounds_toArray, List.set_cons_zero, List.set_cons_succ]
                   refine wpAnyJ_take0 (i := 28) (v := ?_) rfl (by kernel_rfl) (by kernel_rfl) (by kernel_rfl) (fun _ _ _ h => h) (by rfl) (Or.inl ⟨by rfl, ?_⟩) (by assumption) ?_
                   rotate_left 1
                   · intro w hSw; (try dsimp only at hSw); go_simp <;> (try with_reducible rfl)
                   try simp only [Act.put, List.getElem_toArray, List.getElem_cons_succ, List.getElem_cons_zero, List.setIfInBounds_toArray, List.set_cons_zero, List.set_cons_succ]
                   refine wpAnyJ_done (by kernel_rfl) ?_ _
                   clear e0 e1 e2 e3 e4 j0 j1 j2 j3 j4 hHeld
                   go_wp2_with fail
                   go_meet
                   exact cert_mid hC2 hg13 hP2 hG2 fP fG hb2
                 exact AllReadyJ.nil
               exact AllReadyJ.nil
             exact AllReadyJ.nil
           refine AllReadyJ.cons (o := _) rfl (fun Kq hKq => ?_) ?_
           · go_simp
             have hal := balloc X (.cells #[.string { data := #[] }, .slice none 0 0, .int .i64 0, .int .i64 0, .slice none 0 0] 70)
             have hC := Box.new X 70 [.string { data := #[] }, .slice none 0 0, .int .i64 0, .int .i64 0, .slice none 0 0]
             change Box (X.alloc (.cells #[.string { data := #[] }, .slice none 0 0, .int .i64 0, .int .i64 0, .slice none 0 0] 70)) _ _ _ at hC
             have hg13 := hbC.out.size
             have hne := Nat.ne_of_lt hZ.lt
             replace hZ := hZ.below hal
             replace hbC := Lib.hid (bgo hbC.out hal)
             clear hal
             generalize X.heap.size = g13 at hC hg13 hne ⊢
             generalize X.alloc (.cells #[.string { data := #[] }, .slice none 0 0, .int .i64 0, .int .i64 0, .slice none 0 0] 70) = X at *
             refine hKq.out _ _ ?_ (fun hHeld => ?_)
             · intro _; (try dsimp only); (first | exact K.out _ hbC.out | exact K.out _ (bdrew W2))
             clear hKq Kq
             try simp only [Act.put, List.getElem_toArray, List.getElem_cons_succ, List.getElem_cons_zero, List.setIfInBounds_toArray, List.set_cons_zero, List.set_cons_succ]
             refine wpAnyJ_ready (rs := [19]) (by kernel_rfl) (by simp) ?_
             refine AllReadyJ.cons (o := _) rfl (fun Kq hKq => ?_) ?_
             · go_simp
               go_at_call 50
               have hfz := hbC.out.size
               refine (hsg.out X hbC.out).mono ?_
               rintro e X ⟨vV, vP, vG, rfl, ⟨AV, mV, cV, rfl⟩, hP, hG, fP, fG, hal⟩
               obtain ⟨AP, cP, rfl, -, -⟩ := hP.mk_
               obtain ⟨AG, cG, rfl, -, -⟩ := hG.mk_
               replace hZ := hZ.below hal
               replace hC := hC.below hal
               replace hbC := Lib.hid (bgo hbC.out hal)
               replace fP := fP.mono hfz
               replace fG := fG.mono hfz
               clear hal hfz
               go_wp2_with fail
               refine hKq.out _ _ ?_ (fun hHeld => ?_)
               · intro _; (try dsimp only); (first | exact K.out _ hbC.out | exact K.out _ (bdrew W2))
               clear hKq Kq
               try simp only [Act.put, List.getElem_toArray, List.getElem_cons_succ, List.getElem_cons_zero, List.setIfInBounds_toArray, List.set_cons_zero, List.set_cons_succ]
               refine wpAnyJ_take0 (i := 20) (v := ?_) rfl (by kernel_rfl) (by kernel_rfl) (by kernel_rfl) (fun _ _ _ h => h) (by rfl) (Or.inl ⟨by rfl, ?_⟩) (by assumption) ?_
               rotate_left 1
               · intro w hSw; (try dsimp only at hSw); go_simp <;> (try with_reducible rfl)
               try simp only [Act.put, List.getElem_toArray, List.getElem_cons_succ, List.getElem_cons_zero, List.setIfInBounds_toArray, List.set_cons_zero, List.set_cons_succ]
               refine wpAnyJ_take0 (i := 21) (v := ?_) rfl (by kernel_rfl) (by kernel_rfl) (by kernel_rfl) (fun _ _ _ h => h) (by rfl) (Or.inl ⟨by rfl, ?_⟩) (by assumption) ?_
               rotate_left 1
               · intro w hSw; (try dsimp only at hSw); go_simp <;> (try with_reducible rfl)
               try simp only [Act.put, List.getElem_toArray, List.getElem_cons_succ, List.getElem_cons_zero, List.setIfInBounds_toArray, List.set_cons_zero, List.set_cons_succ]
               refine wpAnyJ_take0 (i := 22) (v := ?_) rfl (by kernel_rfl) (by kernel_rfl) (by kernel_rfl) (fun _ _ _ h => h) (by rfl) (Or.inl ⟨by rfl, ?_⟩) (by assumption) ?_
               rotate_left 1
               · intro w hSw; (try dsimp only at hSw); go_simp <;> (try with_reducible rfl)
               try simp only [Act.put, List.getElem_toArray, List.getElem_cons_succ, List.getElem_cons_zero, List.setIfInBounds_toArray, List.set_cons_zero, List.set_cons_succ]
               refine wpAnyJ_take0 (i := 23) (v := ?_) rfl (by kernel_rfl) (by kernel_rfl) (by kernel_rfl) (fun _ _ _ h => h) (by rfl) (Or.inl ⟨by rfl, ?_⟩) (by assumption) ?_
               rotate_left 1
               · intro w hSw; (try dsimp only at hSw); go_simp <;> (try with_reducible rfl)
               try simp only [Act.put, List.getElem_toArray, List.getElem_cons_succ, List.getElem_cons_zero, List.setIfInBounds_toArray, List.set_cons_zero, List.set_cons_succ]
               refine wpAnyJ_ready (rs := [26]) (by kernel_rfl) (by simp) ?_
               refine AllReadyJ.cons (o := _) rfl (fun Kq hKq => ?_) ?_
               · skip
                 obtain ⟨e0, e1, e2, j0, j1, j2⟩ := box3_cells hZ
                 go_simp
                 clear e0 e1 e2 j0 j1 j2
                 have hZ2 := lset3 hZ (.slice AV mV cV) (.int .i64 0) (.int .i64 1)
                 have hC2 := off3 hC hne (.slice AV mV cV) (.int .i64 0) (.int .i64 1)
                 have hP2 := sees_s3 hZ (noBL3' (NoB.s none 0 0) (NoB.i 0) (NoB.i 0)) (.slice AV mV cV) (.int .i64 0) (.int .i64 1) hP
                 have hG2 := sees_s3 hZ (noBL3' (NoB.s none 0 0) (NoB.i 0) (NoB.i 0)) (.slice AV mV cV) (.int .i64 0) (.int .i64 1) hG
                 have hb2 := ((hbC.out.setCell (p := ⟨g12, 0, none⟩) hg12 (.slice AV mV cV)).setCell (p := ⟨g12, 1, none⟩) hg12 (.int .i64 0)).setCell (p := ⟨g12, 2, none⟩) hg12 (.int .i64 1)
                 generalize ((X.setCell ⟨g12, 0, none⟩ (.slice AV mV cV)).setCell ⟨g12, 1, none⟩ (.int .i64 0)).setCell ⟨g12, 2, none⟩ (.int .i64 1) = Y at *
                 refine hKq.out _ _ ?_ (fun hHeld => ?_)
                 · intro hl; exact absurd hl (by decide)
                 clear hKq Kq
                 try simp only [Act.put, List.getElem_toArray, List.getElem_cons_succ, List.getElem_cons_zero, List.setIfInBounds_toArray, List.set_cons_zero, List.set_cons_succ]
                 refine wpAnyJ_ready (rs := [27]) (by kernel_rfl) (by simp) ?_
                 refine AllReadyJ.cons (o := _) rfl (fun Kq hKq => ?_) ?_
                 · skip
                   obtain ⟨e0, e1, e2, e3, e4⟩ := box5_cells hC2
                   have j0 := hC2.frozen 0
                   have j1 := hC2.frozen 1
                   have j2 := hC2.frozen 2
                   have j3 := hC2.frozen 3
                   have j4 := hC2.frozen 4
                   go_simp
                   refine hKq.out _ _ ?_ (fun hHeld => ?_)
                   · intro hl; exact absurd hl (by decide)
                   clear hKq Kq
                   try simp only [Act.put, List.getElem_toArray, List.getElem_cons_succ, List.getElem_cons_zero, List.setIfInBounds_toArray, List.set_cons_zero, List.set_cons_succ]
                   refine wpAnyJ_take0 (i := 28) (v := ?_) rfl (by kernel_rfl) (by kernel_rfl) (by kernel_rfl) (fun _ _ _ h => h) (by rfl) (Or.inl ⟨by rfl, ?_⟩) (by assumption) ?_
                   rotate_left 1
                   · intro w hSw; (try dsimp only at hSw); go_simp <;> (try with_reducible rfl)
                   try simp only [Act.put, List.getElem_toArray, List.getElem_cons_succ, List.getElem_cons_zero, List.setIfInBounds_toArray, List.set_cons_zero, List.set_cons_succ]
                   refine wpAnyJ_done (by kernel_rfl) ?_ _
                   clear e0 e1 e2 e3 e4 j0 j1 j2 j3 j4 hHeld
                   go_wp2_with fail
                   go_meet
                   exact cert_mid hC2 hg13 hP2 hG2 fP fG hb2
                 exact AllReadyJ.nil
               exact AllReadyJ.nil
             exact AllReadyJ.nil
           exact AllReadyJ.nil
         refine AllReadyJ.cons (o := _) rfl (fun Kq hKq => ?_) ?_
         · go_simp
           have hal := balloc X (.cells #[.string { data := #[] }, .slice none 0 0, .int .i64 0, .int .i64 0, .slice none 0 0] 70)
           have hC := Box.new X 70 [.string { data := #[] }, .slice none 0 0, .int .i64 0, .int .i64 0, .slice none 0 0]
           change Box (X.alloc (.cells #[.string { data := #[] }, .slice none 0 0, .int .i64 0, .int .i64 0, .slice none 0 0] 70)) _ _ _ at hC
           have hg13 := hbC.out.size
           have hne := Nat.ne_of_lt hZ.lt
           replace hB := hB.below hal
           replace hZ := hZ.below hal
           replace hbC := Lib.hid (bgo hbC.out hal)
           clear hal
           generalize X.heap.size = g13 at hC hg13 hne ⊢
           generalize X.alloc (.cells #[.string { data := #[] }, .slice none 0 0, .int .i64 0, .int .i64 0, .slice none 0 0] 70) = X at *
           refine hKq.out _ _ ?_ (fun hHeld => ?_)
           · intro _; (try dsimp only); (first | exact K.out _ hbC.out | exact K.out _ (bdrew W2))
           clear hKq Kq
           try simp only [Act.put, List.getElem_toArray, List.getElem_cons_succ, List.getElem_cons_zero, List.setIfInBounds_toArray, List.set_cons_zero, List.set_cons_succ]
           refine wpAnyJ_ready (rs := [5]) (by kernel_rfl) (by simp) ?_
           refine AllReadyJ.cons (o := _) rfl (fun Kq hKq => ?_) ?_
           · skip
             have hcv := hstr.out X gB (hB.cell 0)
             go_simp
             clear hB hcv
             refine hKq.out _ _ ?_ (fun hHeld => ?_)
             · intro _; (try dsimp only); (first | exact K.out _ hbC.out | exact K.out _ (bdrew W2))
             clear hKq Kq
             try simp only [Act.put, List.getElem_toArray, List.getElem_cons_succ, List.getElem_cons_zero, List.setIfInBounds_toArray, List.set_cons_zero, List.set_cons_succ]
             refine wpAnyJ_take0 (i := 6) (v := ?_) rfl (by kernel_rfl) (by kernel_rfl) (by kernel_rfl) (fun _ _ _ h => h) (by rfl) (Or.inl ⟨by rfl, ?_⟩) (by assumption) ?_
             rotate_left 1
             · intro w hSw; (try dsimp only at hSw); go_simp <;> (try with_reducible rfl)
             try simp only [Act.put, List.getElem_toArray, List.getElem_cons_succ, List.getElem_cons_zero, List.setIfInBounds_toArray, List.set_cons_zero, List.set_cons_succ]
             refine wpAnyJ_take0 (i := 18) (v := ?_) rfl (by kernel_rfl) (by kernel_rfl) (by kernel_rfl) (fun _ _ _ h => h) (by rfl) (Or.inl ⟨by rfl, ?_⟩) (by assumption) ?_
             rotate_left 1
             · intro w hSw; (try dsimp only at hSw); go_simp <;> (try with_reducible rfl)
             try simp only [Act.put, List.getElem_toArray, List.getElem_cons_succ, List.getElem_cons_zero, List.setIfInBounds_toArray, List.set_cons_zero, List.set_cons_succ]
             refine wpAnyJ_ready (rs := [19]) (by kernel_rfl) (by simp) ?_
             refine AllReadyJ.cons (o := _) rfl (fun Kq hKq => ?_) ?_
             · go_simp
               go_at_call 50
               have hfz := hbC.out.size
               refine (hsg.out X hbC.out).mono ?_
               rintro e X ⟨vV, vP, vG, rfl, ⟨AV, mV, cV, rfl⟩, hP, hG, fP, fG, hal⟩
               obtain ⟨AP, cP, rfl, -, -⟩ := hP.mk_
               obtain ⟨AG, cG, rfl, -, -⟩ := hG.mk_
               replace hZ := hZ.below hal
               replace hC := hC.below hal
               replace hbC := Lib.hid (bgo hbC.out hal)
               replace fP := fP.mono hfz
               replace fG := fG.mono hfz
               clear hal hfz
               go_wp2_with fail
               refine hKq.out _ _ ?_ (fun hHeld => ?_)
               · intro _; (try dsimp only); (first | exact K.out _ hbC.out | exact K.out _ (bdrew W2))
               clear hKq Kq
               try simp only [Act.put, List.getElem_toArray, List.getElem_cons_succ, List.getElem_cons_zero, List.setIfInBounds_toArray, List.set_cons_zero, List.set_cons_succ]
               refine wpAnyJ_take0 (i := 20) (v := ?_) rfl (by kernel_rfl) (by kernel_rfl) (by kernel_rfl) (fun _ _ _ h => h) (by rfl) (Or.inl ⟨by rfl, ?_⟩) (by assumption) ?_
               rotate_left 1
               · intro w hSw; (try dsimp only at hSw); go_simp <;> (try with_reducible rfl)
               try simp only [Act.put, List.getElem_toArray, List.getElem_cons_succ, List.getElem_cons_zero, List.setIfInBounds_toArray, List.set_cons_zero, List.set_cons_succ]
               refine wpAnyJ_take0 (i := 21) (v := ?_) rfl (by kernel_rfl) (by kernel_rfl) (by kernel_rfl) (fun _ _ _ h => h) (by rfl) (Or.inl ⟨by rfl, ?_⟩) (by assumption) ?_
               rotate_left 1
               · intro w hSw; (try dsimp only at hSw); go_simp <;> (try with_reducible rfl)
               try simp only [Act.put, List.getElem_toArray, List.getElem_cons_succ, List.getElem_cons_zero, List.setIfInBounds_toArray, List.set_cons_zero, List.set_cons_succ]
               refine wpAnyJ_take0 (i := 22) (v := ?_) rfl (by kernel_rfl) (by kernel_rfl) (by kernel_rfl) (fun _ _ _ h => h) (by rfl) (Or.inl ⟨by rfl, ?_⟩) (by assumption) ?_
               rotate_left 1
               · intro w hSw; (try dsimp only at hSw); go_simp <;> (try with_reducible rfl)
               try simp only [Act.put, List.getElem_toArray, List.getElem_cons_succ, List.getElem_cons_zero, List.setIfInBounds_toArray, List.set_cons_zero, List.set_cons_succ]
               refine wpAnyJ_take0 (i := 23) (v := ?_) rfl (by kernel_rfl) (by kernel_rfl) (by kernel_rfl) (fun _ _ _ h => h) (by rfl) (Or.inl ⟨by rfl, ?_⟩) (by assumption) ?_
               rotate_left 1
               · intro w hSw; (try dsimp only at hSw); go_simp <;> (try with_reducible rfl)
               try simp only [Act.put, List.getElem_toArray, List.getElem_cons_succ, List.getElem_cons_zero, List.setIfInBounds_toArray, List.set_cons_zero, List.set_cons_succ]
               refine wpAnyJ_ready (rs := [26]) (by kernel_rfl) (by simp) ?_
               refine AllReadyJ.cons (o := _) rfl (fun Kq hKq => ?_) ?_
               · skip
                 obtain ⟨e0, e1, e2, j0, j1, j2⟩ := box3_cells hZ
                 go_simp
                 clear e0 e1 e2 j0 j1 j2
                 have hZ2 := lset3 hZ (.slice AV mV cV) (.int .i64 0) (.int .i64 1)
                 have hC2 := off3 hC hne (.slice AV mV cV) (.int .i64 0) (.int .i64 1)
                 have hP2 := sees_s3 hZ (noBL3' (NoB.s none 0 0) (NoB.i 0) (NoB.i 0)) (.slice AV mV cV) (.int .i64 0) (.int .i64 1) hP
                 have hG2 := sees_s3 hZ (noBL3' (NoB.s none 0 0) (NoB.i 0) (NoB.i 0)) (.slice AV mV cV) (.int .i64 0) (.int .i64 1) hG
                 have hb2 := ((hbC.out.setCell (p := ⟨g12, 0, none⟩) hg12 (.slice AV mV cV)).setCell (p := ⟨g12, 1, none⟩) hg12 (.int .i64 0)).setCell (p := ⟨g12, 2, none⟩) hg12 (.int .i64 1)
                 generalize ((X.setCell ⟨g12, 0, none⟩ (.slice AV mV cV)).setCell ⟨g12, 1, none⟩ (.int .i64 0)).setCell ⟨g12, 2, none⟩ (.int .i64 1) = Y at *
                 refine hKq.out _ _ ?_ (fun hHeld => ?_)
                 · intro hl; exact absurd hl (by decide)
                 clear hKq Kq
                 try simp only [Act.put, List.getElem_toArray, List.getElem_cons_succ, List.getElem_cons_zero, List.setIfInBounds_toArray, List.set_cons_zero, List.set_cons_succ]
                 refine wpAnyJ_ready (rs := [27]) (by kernel_rfl) (by simp) ?_
                 refine AllReadyJ.cons (o := _) rfl (fun Kq hKq => ?_) ?_
                 · skip
                   obtain ⟨e0, e1, e2, e3, e4⟩ := box5_cells hC2
                   have j0 := hC2.frozen 0
                   have j1 := hC2.frozen 1
                   have j2 := hC2.frozen 2
                   have j3 := hC2.frozen 3
                   have j4 := hC2.frozen 4
                   go_simp
                   refine hKq.out _ _ ?_ (fun hHeld => ?_)
                   · intro hl; exact absurd hl (by decide)
                   clear hKq Kq
                   try simp only [Act.put, List.getElem_toArray, List.getElem_cons_succ, List.getElem_cons_zero, List.setIfInBounds_toArray, List.set_cons_zero, List.set_cons_succ]
                   refine wpAnyJ_take0 (i := 28) (v := ?_) rfl (by kernel_rfl) (by kernel_rfl) (by kernel_rfl) (fun _ _ _ h => h) (by rfl) (Or.inl ⟨by rfl, ?_⟩) (by assumption) ?_
                   rotate_left 1
                   · intro w hSw; (try dsimp only at hSw); go_simp <;> (try with_reducible rfl)
                   try simp only [Act.put, List.getElem_toArray, List.getElem_cons_succ, List.getElem_cons_zero, List.setIfInBounds_toArray, List.set_cons_zero, List.set_cons_succ]
                   refine wpAnyJ_done (by kernel_rfl) ?_ _
                   clear e0 e1 e2 e3 e4 j0 j1 j2 j3 j4 hHeld
                   go_wp2_with fail
                   go_meet
                   exact cert_mid hC2 hg13 hP2 hG2 fP fG hb2
                 exact AllReadyJ.nil
               exact AllReadyJ.nil
             exact AllReadyJ.nil
           exact AllReadyJ.nil
         exact AllReadyJ.nil
       refine AllReadyJ.cons (o := _) rfl (fun Kq hKq => ?_) ?_
       · go_simp
         have hal := balloc X (.cells #[.string { data := #[] }, .slice none 0 0, .int .i64 0, .int .i64 0, .slice none 0 0] 70)
         have hC := Box.new X 70 [.string { data := #[] }, .slice none 0 0, .int .i64 0, .int .i64 0, .slice none 0 0]
         change Box (X.alloc (.cells #[.string { data := #[] }, .slice none 0 0, .int .i64 0, .int .i64 0, .slice none 0 0] 70)) _ _ _ at hC
         have hg13 := hbC.out.size
         replace hB := hB.below hal
         replace hbC := Lib.hid (bgo hbC.out hal)
         clear hal
         generalize X.heap.size = g13 at hC hg13 ⊢
         generalize X.alloc (.cells #[.string { data := #[] }, .slice none 0 0, .int .i64 0, .int .i64 0, .slice none 0 0] 70) = X at *
         refine hKq.out _ _ ?_ (fun hHeld => ?_)
         · intro _; (try dsimp only); (first | exact K.out _ hbC.out | exact K.out _ (bdrew W2))
         clear hKq Kq
         try simp only [Act.put, List.getElem_toArray, List.getElem_cons_succ, List.getElem_cons_zero, List.setIfInBounds_toArray, List.set_cons_zero, List.set_cons_succ]
         refine wpAnyJ_ready (rs := [5, 24]) (by kernel_rfl) (by simp) ?_
         refine AllReadyJ.cons (o := _) rfl (fun Kq hKq => ?_) ?_
         · skip
           have hcv := hstr.out X gB (hB.cell 0)
           go_simp
           clear hB hcv
           refine hKq.out _ _ ?_ (fun hHeld => ?_)
           · intro _; (try dsimp only); (first | exact K.out _ hbC.out | exact K.out _ (bdrew W2))
           clear hKq Kq
           try simp only [Act.put, List.getElem_toArray, List.getElem_cons_succ, List.getElem_cons_zero, List.setIfInBounds_toArray, List.set_cons_zero, List.set_cons_succ]
           refine wpAnyJ_take0 (i := 6) (v := ?_) rfl (by kernel_rfl) (by kernel_rfl) (by kernel_rfl) (fun _ _ _ h => h) (by rfl) (Or.inl ⟨by rfl, ?_⟩) (by assumption) ?_
           rotate_left 1
           · intro w hSw; (try dsimp only at hSw); go_simp <;> (try with_reducible rfl)
           try simp only [Act.put, List.getElem_toArray, List.getElem_cons_succ, List.getElem_cons_zero, List.setIfInBounds_toArray, List.set_cons_zero, List.set_cons_succ]
           refine wpAnyJ_take0 (i := 18) (v := ?_) rfl (by kernel_rfl) (by kernel_rfl) (by kernel_rfl) (fun _ _ _ h => h) (by rfl) (Or.inl ⟨by rfl, ?_⟩) (by assumption) ?_
           rotate_left 1
           · intro w hSw; (try dsimp only at hSw); go_simp <;> (try with_reducible rfl)
           try simp only [Act.put, List.getElem_toArray, List.getElem_cons_succ, List.getElem_cons_zero, List.setIfInBounds_toArray, List.set_cons_zero, List.set_cons_succ]
           refine wpAnyJ_ready (rs := [19, 24]) (by kernel_rfl) (by simp) ?_
           refine AllReadyJ.cons (o := _) rfl (fun Kq hKq => ?_) ?_
           · go_simp
             go_at_call 50
             have hfz := hbC.out.size
             refine (hsg.out X hbC.out).mono ?_
             rintro e X ⟨vV, vP, vG, rfl, ⟨AV, mV, cV, rfl⟩, hP, hG, fP, fG, hal⟩
             obtain ⟨AP, cP, rfl, -, -⟩ := hP.mk_
             obtain ⟨AG, cG, rfl, -, -⟩ := hG.mk_
             replace hC := hC.below hal
             replace hbC := Lib.hid (bgo hbC.out hal)
             replace fP := fP.mono hfz
             replace fG := fG.mono hfz
             clear hal hfz
             go_wp2_with fail
             refine hKq.out _ _ ?_ (fun hHeld => ?_)
             · intro _; (try dsimp only); (first | exact K.out _ hbC.out | exact K.out _ (bdrew W2))
             clear hKq Kq
             try simp only [Act.put, List.getElem_toArray, List.getElem_cons_succ, List.getElem_cons_zero, List.setIfInBounds_toArray, List.set_cons_zero, List.set_cons_succ]
             refine wpAnyJ_take0 (i := 20) (v := ?_) rfl (by kernel_rfl) (by kernel_rfl) (by kernel_rfl) (fun _ _ _ h => h) (by rfl) (Or.inl ⟨by rfl, ?_⟩) (by assumption) ?_
             rotate_left 1
             · intro w hSw; (try dsimp only at hSw); go_simp <;> (try with_reducible rfl)
             try simp only [Act.put, List.getElem_toArray, List.getElem_cons_succ, List.getElem_cons_zero, List.setIfInBounds_toArray, List.set_cons_zero, List.set_cons_succ]
             refine wpAnyJ_take0 (i := 21) (v := ?_) rfl (by kernel_rfl) (by kernel_rfl) (by kernel_rfl) (fun _ _ _ h => h) (by rfl) (Or.inl ⟨by rfl, ?_⟩) (by assumption) ?_
             rotate_left 1
             · intro w hSw; (try dsimp only at hSw); go_simp <;> (try with_reducible rfl)
             try simp only [Act.put, List.getElem_toArray, List.getElem_cons_succ, List.getElem_cons_zero, List.setIfInBounds_toArray, List.set_cons_zero, List.set_cons_succ]
             refine wpAnyJ_take0 (i := 22) (v := ?_) rfl (by kernel_rfl) (by kernel_rfl) (by kernel_rfl) (fun _ _ _ h => h) (by rfl) (Or.inl ⟨by rfl, ?_⟩) (by assumption) ?_
             rotate_left 1
             · intro w hSw; (try dsimp only at hSw); go_simp <;> (try with_reducible rfl)
             try simp only [Act.put, List.getElem_toArray, List.getElem_cons_succ, List.getElem_cons_zero, List.setIfInBounds_toArray, List.set_cons_zero, List.set_cons_succ]
             refine wpAnyJ_take0 (i := 23) (v := ?_) rfl (by kernel_rfl) (by kernel_rfl) (by kernel_rfl) (fun _ _ _ h => h) (by rfl) (Or.inl ⟨by rfl, ?_⟩) (by assumption) ?_
             rotate_left 1
             · intro w hSw; (try dsimp only at hSw); go_simp <;> (try with_reducible rfl)
             try simp only [Act.put, List.getElem_toArray, List.getElem_cons_succ, List.getElem_cons_zero, List.setIfInBounds_toArray, List.set_cons_zero, List.set_cons_succ]
             refine wpAnyJ_ready (rs := [24]) (by kernel_rfl) (by simp) ?_
             refine AllReadyJ.cons (o := _) rfl (fun Kq hKq => ?_) ?_
             · go_simp
               have hal := balloc X (.cells #[.slice none 0 0, .int .i64 0, .int .i64 0] 27)
               have hZ := Box.new X 27 [.slice none 0 0, .int .i64 0, .int .i64 0]
               change Box (X.alloc (.cells #[.slice none 0 0, .int .i64 0, .int .i64 0] 27)) _ _ _ at hZ
               have hg12 := hbC.out.size
               have hne := Nat.ne_of_gt hC.lt
               replace hC := hC.below hal
               replace hP := seesB_of hP (Nat.le_refl _) hal
               replace hG := seesB_of hG (Nat.le_refl _) hal
               replace hbC := Lib.hid (bgo hbC.out hal)
               clear hal
               generalize X.heap.size = g12 at hZ hg12 hne ⊢
               generalize X.alloc (.cells #[.slice none 0 0, .int .i64 0, .int .i64 0] 27) = X at *
               refine hKq.out _ _ ?_ (fun hHeld => ?_)
               · intro _; (try dsimp only); (first | exact K.out _ hbC.out | exact K.out _ (bdrew W2))
               clear hKq Kq
               try simp only [Act.put, List.getElem_toArray, List.getElem_cons_succ, List.getElem_cons_zero, List.setIfInBounds_toArray, List.set_cons_zero, List.set_cons_succ]
               refine wpAnyJ_ready (rs := [26]) (by kernel_rfl) (by simp) ?_
               refine AllReadyJ.cons (o := _) rfl (fun Kq hKq => ?_) ?_
               · skip
                 obtain ⟨e0, e1, e2, j0, j1, j2⟩ := box3_cells hZ
                 go_simp
                 clear e0 e1 e2 j0 j1 j2
                 have hZ2 := lset3 hZ (.slice AV mV cV) (.int .i64 0) (.int .i64 1)
                 have hC2 := off3 hC hne (.slice AV mV cV) (.int .i64 0) (.int .i64 1)
                 have hP2 := sees_s3 hZ (noBL3' (NoB.s none 0 0) (NoB.i 0) (NoB.i 0)) (.slice AV mV cV) (.int .i64 0) (.int .i64 1) hP
                 have hG2 := sees_s3 hZ (noBL3' (NoB.s none 0 0) (NoB.i 0) (NoB.i 0)) (.slice AV mV cV) (.int .i64 0) (.int .i64 1) hG
                 have hb2 := ((hbC.out.setCell (p := ⟨g12, 0, none⟩) hg12 (.slice AV mV cV)).setCell (p := ⟨g12, 1, none⟩) hg12 (.int .i64 0)).setCell (p := ⟨g12, 2, none⟩) hg12 (.int .i64 1)
                 generalize ((X.setCell ⟨g12, 0, none⟩ (.slice AV mV cV)).setCell ⟨g12, 1, none⟩ (.int .i64 0)).setCell ⟨g12, 2, none⟩ (.int .i64 1) = Y at *
                 refine hKq.out _ _ ?_ (fun hHeld => ?_)
                 · intro hl; exact absurd hl (by decide)
                 clear hKq Kq
                 try simp only [Act.put, List.getElem_toArray, List.getElem_cons_succ, List.getElem_cons_zero, List.setIfInBounds_toArray, List.set_cons_zero, List.set_cons_succ]
                 refine wpAnyJ_ready (rs := [27]) (by kernel_rfl) (by simp) ?_
                 refine AllReadyJ.cons (o := _) rfl (fun Kq hKq => ?_) ?_
                 · skip
                   obtain ⟨e0, e1, e2, e3, e4⟩ := box5_cells hC2
                   have j0 := hC2.frozen 0
                   have j1 := hC2.frozen 1
                   have j2 := hC2.frozen 2
                   have j3 := hC2.frozen 3
                   have j4 := hC2.frozen 4
                   go_simp
                   refine hKq.out _ _ ?_ (fun hHeld => ?_)
                   · intro hl; exact absurd hl (by decide)
                   clear hKq Kq
                   try simp only [Act.put, List.getElem_toArray, List.getElem_cons_succ, List.getElem_cons_zero, List.setIfInBounds_toArray, List.set_cons_zero, List.set_cons_succ]
                   refine wpAnyJ_take0 (i := 28) (v := ?_) rfl (by kernel_rfl) (by kernel_rfl) (by kernel_rfl) (fun _ _ _ h => h) (by rfl) (Or.inl ⟨by rfl, ?_⟩) (by assumption) ?_
                   rotate_left 1
                   · intro w hSw; (try dsimp only at hSw); go_simp <;> (try with_reducible rfl)
                   try simp only [Act.put, List.getElem_toArray, List.getElem_cons_succ, List.getElem_cons_zero, List.setIfInBounds_toArray, List.set_cons_zero, List.set_cons_succ]
                   refine wpAnyJ_done (by kernel_rfl) ?_ _
                   clear e0 e1 e2 e3 e4 j0 j1 j2 j3 j4 hHeld
                   go_wp2_with fail
                   go_meet
                   exact cert_mid hC2 hg13 hP2 hG2 fP fG hb2
                 exact AllReadyJ.nil
               exact AllReadyJ.nil
             exact AllReadyJ.nil
           refine AllReadyJ.cons (o := _) rfl (fun Kq hKq => ?_) ?_
           · go_simp
             have hal := balloc X (.cells #[.slice none 0 0, .int .i64 0, .int .i64 0] 27)
             have hZ := Box.new X 27 [.slice none 0 0, .int .i64 0, .int .i64 0]
             change Box (X.alloc (.cells #[.slice none 0 0, .int .i64 0, .int .i64 0] 27)) _ _ _ at hZ
             have hg12 := hbC.out.size
             have hne := Nat.ne_of_gt hC.lt
             replace hC := hC.below hal
             replace hbC := Lib.hid (bgo hbC.out hal)
             clear hal
             generalize X.heap.size = g12 at hZ hg12 hne ⊢
             generalize X.alloc (.cells #[.slice none 0 0, .int .i64 0, .int .i64 0] 27) = X at *
             refine hKq.out _ _ ?_ (fun hHeld => ?_)
             · intro _; (try dsimp only); (first | exact K.out _ hbC.out | exact K.out _ (bdrew W2))
             clear hKq Kq
             try simp only [Act.put, List.getElem_toArray, List.getElem_cons_succ, List.getElem_cons_zero, List.setIfInBounds_toArray, List.set_cons_zero, List.set_cons_succ]
             refine wpAnyJ_ready (rs := [19]) (by kernel_rfl) (by simp) ?_
             refine AllReadyJ.cons (o := _) rfl (fun Kq hKq => ?_) ?_
             · go_simp
               go_at_call 50
               have hfz := hbC.out.size
               refine (hsg.out X hbC.out).mono ?_
               rintro e X ⟨vV, vP, vG, rfl, ⟨AV, mV, cV, rfl⟩, hP, hG, fP, fG, hal⟩
               obtain ⟨AP, cP, rfl, -, -⟩ := hP.mk_
               obtain ⟨AG, cG, rfl, -, -⟩ := hG.mk_
               replace hZ := hZ.below hal
               replace hC := hC.below hal
               replace hbC := Lib.hid (bgo hbC.out hal)
               replace fP := fP.mono hfz
               replace fG := fG.mono hfz
               clear hal hfz
               go_wp2_with fail
               refine hKq.out _ _ ?_ (fun hHeld => ?_)
               · intro _; (try dsimp only); (first | exact K.out _ hbC.out | exact K.out _ (bdrew W2))
               clear hKq Kq
               try simp only [Act.put, List.getElem_toArray, List.getElem_cons_succ, List.getElem_cons_zero, List.setIfInBounds_toArray, List.set_cons_zero, List.set_cons_succ]
               refine wpAnyJ_take0 (i := 20) (v := ?_) rfl (by kernel_rfl) (by kernel_rfl) (by kernel_rfl) (fun _ _ _ h => h) (by rfl) (Or.inl ⟨by rfl, ?_⟩) (by assumption) ?_
               rotate_left 1
               · intro w hSw; (try dsimp only at hSw); go_simp <;> (try with_reducible rfl)
               try simp only [Act.put, List.getElem_toArray, List.getElem_cons_succ, List.getElem_cons_zero, List.setIfInBounds_toArray, List.set_cons_zero, List.set_cons_succ]
               refine wpAnyJ_take0 (i := 21) (v := ?_) rfl (by kernel_rfl) (by kernel_rfl) (by kernel_rfl) (fun _ _ _ h => h) (by rfl) (Or.inl ⟨by rfl, ?_⟩) (by assumption) ?_
               rotate_left 1
               · intro w hSw; (try dsimp only at hSw); go_simp <;> (try with_reducible rfl)
               try simp only [Act.put, List.getElem_toArray, List.getElem_cons_succ, List.getElem_cons_zero, List.setIfInBounds_toArray, List.set_cons_zero, List.set_cons_succ]
               refine wpAnyJ_take0 (i := 22) (v := ?_) rfl (by kernel_rfl) (by kernel_rfl) (by kernel_rfl) (fun _ _ _ h => h) (by rfl) (Or.inl ⟨by rfl, ?_⟩) (by assumption) ?_
               rotate_left 1
               · intro w hSw; (try dsimp only at hSw); go_simp <;> (try with_reducible rfl)
               try simp only [Act.put, List.getElem_toArray, List.getElem_cons_succ, List.getElem_cons_zero, List.setIfInBounds_toArray, List.set_cons_zero, List.set_cons_succ]
               refine wpAnyJ_take0 (i := 23) (v := ?_) rfl (by kernel_rfl) (by kernel_rfl) (by kernel_rfl) (fun _ _ _ h => h) (by rfl) (Or.inl ⟨by rfl, ?_⟩) (by assumption) ?_
               rotate_left 1
               · intro w hSw; (try dsimp only at hSw); go_simp <;> (try with_reducible rfl)
               try simp only [Act.put, List.getElem_toArray, List.getElem_cons_succ, List.getElem_cons_zero, List.setIfInBounds_toArray, List.set_cons_zero, List.set_cons_succ]
               refine wpAnyJ_ready (rs := [26]) (by kernel_rfl) (by simp) ?_
               refine AllReadyJ.cons (o := _) rfl (fun Kq hKq => ?_) ?_
               · skip
                 obtain ⟨e0, e1, e2, j0, j1, j2⟩ := box3_cells hZ
                 go_simp
                 clear e0 e1 e2 j0 j1 j2
                 have hZ2 := lset3 hZ (.slice AV mV cV) (.int .i64 0) (.int .i64 1)
                 have hC2 := off3 hC hne (.slice AV mV cV) (.int .i64 0) (.int .i64 1)
                 have hP2 := sees_s3 hZ (noBL3' (NoB.s none 0 0) (NoB.i 0) (NoB.i 0)) (.slice AV mV cV) (.int .i64 0) (.int .i64 1) hP
                 have hG2 := sees_s3 hZ (noBL3' (NoB.s none 0 0) (NoB.i 0) (NoB.i 0)) (.slice AV mV cV) (.int .i64 0) (.int .i64 1) hG
                 have hb2 := ((hbC.out.setCell (p := ⟨g12, 0, none⟩) hg12 (.slice AV mV cV)).setCell (p := ⟨g12, 1, none⟩) hg12 (.int .i64 0)).setCell (p := ⟨g12, 2, none⟩) hg12 (.int .i64 1)
                 generalize ((X.setCell ⟨g12, 0, none⟩ (.slice AV mV cV)).setCell ⟨g12, 1, none⟩ (.int .i64 0)).setCell ⟨g12, 2, none⟩ (.int .i64 1) = Y at *
                 refine hKq.out _ _ ?_ (fun hHeld => ?_)
                 · intro hl; exact absurd hl (by decide)
                 clear hKq Kq
                 try simp only [Act.put, List.getElem_toArray, List.getElem_cons_succ, List.getElem_cons_zero, List.setIfInBounds_toArray, List.set_cons_zero, List.set_cons_succ]
                 refine wpAnyJ_ready (rs := [27]) (by kernel_rfl) (by simp) ?_
                 refine AllReadyJ.cons (o := _) rfl (fun Kq hKq => ?_) ?_
                 · skip
                   obtain ⟨e0, e1, e2, e3, e4⟩ := box5_cells hC2
                   have j0 := hC2.frozen 0
                   have j1 := hC2.frozen 1
                   have j2 := hC2.frozen 2
                   have j3 := hC2.frozen 3
                   have j4 := hC2.frozen 4
                   go_simp
                   refine hKq.out _ _ ?_ (fun hHeld => ?_)
                   · intro hl; exact absurd hl (by decide)
                   clear hKq Kq
                   try simp only [Act.put, List.getElem_toArray, List.getElem_cons_succ, List.getElem_cons_zero, List.setIfInBounds_toArray, List.set_cons_zero, List.set_cons_succ]
                   refine wpAnyJ_take0 (i := 28) (v := ?_) rfl (by kernel_rfl) (by kernel_rfl) (by kernel_rfl) (fun _ _ _ h => h) (by rfl) (Or.inl ⟨by rfl, ?_⟩) (by assumption) ?_
                   rotate_left 1
                   · intro w hSw; (try dsimp only at hSw); go_simp <;> (try with_reducible rfl)
                   try simp only [Act.put, List.getElem_toArray, List.getElem_cons_succ, List.getElem_cons_zero, List.setIfInBounds_toArray, List.set_cons_zero, List.set_cons_succ]
                   refine wpAnyJ_done (by kernel_rfl) ?_ _
                   clear e0 e1 e2 e3 e4 j0 j1 j2 j3 j4 hHeld
                   go_wp2_with fail
                   go_meet
                   exact cert_mid hC2 hg13 hP2 hG2 fP fG hb2
                 exact AllReadyJ.nil
               exact AllReadyJ.nil
             exact AllReadyJ.nil
           exact AllReadyJ.nil
         refine AllReadyJ.cons (o := _) rfl (fun Kq hKq => ?_) ?_
         · go_simp
           have hal := balloc X (.cells #[.slice none 0 0, .int .i64 0, .int .i64 0] 27)
           have hZ := Box.new X 27 [.slice none 0 0, .int .i64 0, .int .i64 0]
           change Box (X.alloc (.cells #[.slice none 0 0, .int .i64 0, .int .i64 0] 27)) _ _ _ at hZ
           have hg12 := hbC.out.size
           have hne := Nat.ne_of_gt hC.lt
           replace hB := hB.below hal
           replace hC := hC.below hal
           replace hbC := Lib.hid (bgo hbC.out hal)
           clear hal
           generalize X.heap.size = g12 at hZ hg12 hne ⊢
           generalize X.alloc (.cells #[.slice none 0 0, .int .i64 0, .int .i64 0] 27) = X at *
           refine hKq.out _ _ ?_ (fun hHeld => ?_)
           · intro _; (try dsimp only); (first | exact K.out _ hbC.out | exact K.out _ (bdrew W2))
           clear hKq Kq
           try simp only [Act.put, List.getElem_toArray, List.getElem_cons_succ, List.getElem_cons_zero, List.setIfInBounds_toArray, List.set_cons_zero, List.set_cons_succ]
           refine wpAnyJ_ready (rs := [5]) (by kernel_rfl) (by simp) ?_
           refine AllReadyJ.cons (o := _) rfl (fun Kq hKq => ?_) ?_
           · skip
             have hcv := hstr.out X gB (hB.cell 0)
             go_simp
             clear hB hcv
             refine hKq.out _ _ ?_ (fun hHeld => ?_)
             · intro _; (try dsimp only); (first | exact K.out _ hbC.out | exact K.out _ (bdrew W2))
             clear hKq Kq
             try simp only [Act.put, List.getElem_toArray, List.getElem_cons_succ, List.getElem_cons_zero, List.setIfInBounds_toArray, List.set_cons_zero, List.set_cons_succ]
             refine wpAnyJ_take0 (i := 6) (v := ?_) rfl (by kernel_rfl) (by kernel_rfl) (by kernel_rfl) (fun _ _ _ h => h) (by rfl) (Or.inl ⟨by rfl, ?_⟩) (by assumption) ?_
             rotate_left 1
             · intro w hSw; (try dsimp only at hSw); go_simp <;> (try with_reducible rfl)
             try simp only [Act.put, List.getElem_toArray, List.getElem_cons_succ, List.getElem_cons_zero, List.setIfInBounds_toArray, List.set_cons_zero, List.set_cons_succ]
             refine wpAnyJ_take0 (i := 18) (v := ?_) rfl (by kernel_rfl) (by kernel_rfl) (by kernel_rfl) (fun _ _ _ h => h) (by rfl) (Or.inl ⟨by rfl, ?_⟩) (by assumption) ?_
             rotate_left 1
             · intro w hSw; (try dsimp only at hSw); go_simp <;> (try with_reducible rfl)
             try simp only [Act.put, List.getElem_toArray, List.getElem_cons_succ, List.getElem_cons_zero, List.setIfInBounds_toArray, List.set_cons_zero, List.set_cons_succ]
             refine wpAnyJ_ready (rs := [19]) (by kernel_rfl) (by simp) ?_
             refine AllReadyJ.cons (o := _) rfl (fun Kq hKq => ?_) ?_
             · go_simp
               go_at_call 50
               have hfz := hbC.out.size
               refine (hsg.out X hbC.out).mono ?_
               rintro e X ⟨vV, vP, vG, rfl, ⟨AV, mV, cV, rfl⟩, hP, hG, fP, fG, hal⟩
               obtain ⟨AP, cP, rfl, -, -⟩ := hP.mk_
               obtain ⟨AG, cG, rfl, -, -⟩ := hG.mk_
               replace hZ := hZ.below hal
               replace hC := hC.below hal
               replace hbC := Lib.hid (bgo hbC.out hal)
               replace fP := fP.mono hfz
               replace fG := fG.mono hfz
               clear hal hfz
               go_wp2_with fail
               refine hKq.out _ _ ?_ (fun hHeld => ?_)
               · intro _; (try dsimp only); (first | exact K.out _ hbC.out | exact K.out _ (bdrew W2))
               clear hKq Kq
               try simp only [Act.put, List.getElem_toArray, List.getElem_cons_succ, List.getElem_cons_zero, List.setIfInBounds_toArray, List.set_cons_zero, List.set_cons_succ]
               refine wpAnyJ_take0 (i := 20) (v := ?_) rfl (by kernel_rfl) (by kernel_rfl) (by kernel_rfl) (fun _ _ _ h => h) (by rfl) (Or.inl ⟨by rfl, ?_⟩) (by assumption) ?_
               rotate_left 1
               · intro w hSw; (try dsimp only at hSw); go_simp <;> (try with_reducible rfl)
               try simp only [Act.put, List.getElem_toArray, List.getElem_cons_succ, List.getElem_cons_zero, List.setIfInBounds_toArray, List.set_cons_zero, List.set_cons_succ]
               refine wpAnyJ_take0 (i := 21) (v := ?_) rfl (by kernel_rfl) (by kernel_rfl) (by kernel_rfl) (fun _ _ _ h => h) (by rfl) (Or.inl ⟨by rfl, ?_⟩) (by assumption) ?_
               rotate_left 1
               · intro w hSw; (try dsimp only at hSw); go_simp <;> (try with_reducible rfl)
               try simp only [Act.put, List.getElem_toArray, List.getElem_cons_succ, List.getElem_cons_zero, List.setIfInBounds_toArray, List.set_cons_zero, List.set_cons_succ]
               refine wpAnyJ_take0 (i := 22) (v := ?_) rfl (by kernel_rfl) (by kernel_rfl) (by kernel_rfl) (fun _ _ _ h => h) (by rfl) (Or.inl ⟨by rfl, ?_⟩) (by assumption) ?_
               rotate_left 1
               · intro w hSw; (try dsimp only at hSw); go_simp <;> (try with_reducible rfl)
               try simp only [Act.put, List.getElem_toArray, List.getElem_cons_succ, List.getElem_cons_zero, List.setIfInBounds_toArray, List.set_cons_zero, List.set_cons_succ]
               refine wpAnyJ_take0 (i := 23) (v := ?_) rfl (by kernel_rfl) (by kernel_rfl) (by kernel_rfl) (fun _ _ _ h => h) (by rfl) (Or.inl ⟨by rfl, ?_⟩) (by assumption) ?_
               rotate_left 1
               · intro w hSw; (try dsimp only at hSw); go_simp <;> (try with_reducible rfl)
               try simp only [Act.put, List.getElem_toArray, List.getElem_cons_succ, List.getElem_cons_zero, List.setIfInBounds_toArray, List.set_cons_zero, List.set_cons_succ]
               refine wpAnyJ_ready (rs := [26]) (by kernel_rfl) (by simp) ?_
               refine AllReadyJ.cons (o := _) rfl (fun Kq hKq => ?_) ?_
               · skip
                 obtain ⟨e0, e1, e2, j0, j1, j2⟩ := box3_cells hZ
                 go_simp
                 clear e0 e1 e2 j0 j1 j2
                 have hZ2 := lset3 hZ (.slice AV mV cV) (.int .i64 0) (.int .i64 1)
                 have hC2 := off3 hC hne (.slice AV mV cV) (.int .i64 0) (.int .i64 1)
                 have hP2 := sees_s3 hZ (noBL3' (NoB.s none 0 0) (NoB.i 0) (NoB.i 0)) (.slice AV mV cV) (.int .i64 0) (.int .i64 1) hP
                 have hG2 := sees_s3 hZ (noBL3' (NoB.s none 0 0) (NoB.i 0) (NoB.i 0)) (.slice AV mV cV) (.int .i64 0) (.int .i64 1) hG
                 have hb2 := ((hbC.out.setCell (p := ⟨g12, 0, none⟩) hg12 (.slice AV mV cV)).setCell (p := ⟨g12, 1, none⟩) hg12 (.int .i64 0)).setCell (p := ⟨g12, 2, none⟩) hg12 (.int .i64 1)
                 generalize ((X.setCell ⟨g12, 0, none⟩ (.slice AV mV cV)).setCell ⟨g12, 1, none⟩ (.int .i64 0)).setCell ⟨g12, 2, none⟩ (.int .i64 1) = Y at *
                 refine hKq.out _ _ ?_ (fun hHeld => ?_)
                 · intro hl; exact absurd hl (by decide)
                 clear hKq Kq
                 try simp only [Act.put, List.getElem_toArray, List.getElem_cons_succ, List.getElem_cons_zero, List.setIfInBounds_toArray, List.set_cons_zero, List.set_cons_succ]
                 refine wpAnyJ_ready (rs := [27]) (by kernel_rfl) (by simp) ?_
                 refine AllReadyJ.cons (o := _) rfl (fun Kq hKq => ?_) ?_
                 · skip
                   obtain ⟨e0, e1, e2, e3, e4⟩ := box5_cells hC2
                   have j0 := hC2.frozen 0
                   have j1 := hC2.frozen 1
                   have j2 := hC2.frozen 2
                   have j3 := hC2.frozen 3
                   have j4 := hC2.frozen 4
                   go_simp
                   refine hKq.out _ _ ?_ (fun hHeld => ?_)
                   · intro hl; exact absurd hl (by decide)
                   clear hKq Kq
                   try simp only [Act.put, List.getElem_toArray, List.getElem_cons_succ, List.getElem_cons_zero, List.setIfInBounds_toArray, List.set_cons_zero, List.set_cons_succ]
                   refine wpAnyJ_take0 (i := 28) (v := ?_) rfl (by kernel_rfl) (by kernel_rfl) (by kernel_rfl) (fun _ _ _ h => h) (by rfl) (Or.inl ⟨by rfl, ?_⟩) (by assumption) ?_
                   rotate_left 1
                   · intro w hSw; (try dsimp only at hSw); go_simp <;> (try with_reducible rfl)
                   try simp only [Act.put, List.getElem_toArray, List.getElem_cons_succ, List.getElem_cons_zero, List.setIfInBounds_toArray, List.set_cons_zero, List.set_cons_succ]
                   refine wpAnyJ_done (by kernel_rfl) ?_ _
                   clear e0 e1 e2 e3 e4 j0 j1 j2 j3 j4 hHeld
                   go_wp2_with fail
                   go_meet
                   exact cert_mid hC2 hg13 hP2 hG2 fP fG hb2
                 exact AllReadyJ.nil
               exact AllReadyJ.nil
             exact AllReadyJ.nil
           exact AllReadyJ.nil
         exact AllReadyJ.nil
       exact AllReadyJ.nil
     refine AllReadyJ.cons (o := _) rfl (fun Kq hKq => ?_) ?_
     · go_simp
       have hal := balloc X (.cells #[.slice none 0 0, .int .i64 0, .int .i64 0] 27)
       have hZ := Box.new X 27 [.slice none 0 0, .int .i64 0, .int .i64 0]
       change Box (X.alloc (.cells #[.slice none 0 0, .int .i64 0, .int .i64 0] 27)) _ _ _ at hZ
       have hg12 := hbC.out.size
       replace hbC := Lib.hid (bgo hbC.out hal)
       clear hal
       generalize X.heap.size = g12 at hZ hg12 ⊢
       generalize X.alloc (.cells #[.slice none 0 0, .int .i64 0, .int .i64 0] 27) = X at *
       refine hKq.out _ _ ?_ (fun hHeld => ?_)
       · intro _; (try dsimp only); (first | exact K.out _ hbC.out | exact K.out _ (bdrew W2))
       clear hKq Kq
       try simp only [Act.put, List.getElem_toArray, List.getElem_cons_succ, List.getElem_cons_zero, List.setIfInBounds_toArray, List.set_cons_zero, List.set_cons_succ]
       refine wpAnyJ_ready (rs := [4, 25]) (by kernel_rfl) (by simp) ?_
       refine AllReadyJ.cons (o := _) rfl (fun Kq hKq => ?_) ?_
       · go_simp
         have hal := balloc X (.cells #[.int .u8 (48 + (i : Int))] 5)
         have hB := Box.new X 5 [.int .u8 (48 + (i : Int))]
         change Box (X.alloc (.cells #[.int .u8 (48 + (i : Int))] 5)) _ _ _ at hB
         replace hZ := hZ.below hal
         replace hbC := Lib.hid (bgo hbC.out hal)
         clear hal
         generalize X.heap.size = gB at hB ⊢
         generalize X.alloc (.cells #[.int .u8 (48 + (i : Int))] 5) = X at *
         refine hKq.out _ _ ?_ (fun hHeld => ?_)
         · intro _; (try dsimp only); (first | exact K.out _ hbC.out | exact K.out _ (bdrew W2))
         clear hKq Kq
         try simp only [Act.put, List.getElem_toArray, List.getElem_cons_succ, List.getElem_cons_zero, List.setIfInBounds_toArray, List.set_cons_zero, List.set_cons_succ]
         refine wpAnyJ_ready (rs := [5, 25]) (by kernel_rfl) (by simp) ?_
         refine AllReadyJ.cons (o := _) rfl (fun Kq hKq => ?_) ?_
         · skip
           have hcv := hstr.out X gB (hB.cell 0)
           go_simp
           clear hB hcv
           refine hKq.out _ _ ?_ (fun hHeld => ?_)
           · intro _; (try dsimp only); (first | exact K.out _ hbC.out | exact K.out _ (bdrew W2))
           clear hKq Kq
           try simp only [Act.put, List.getElem_toArray, List.getElem_cons_succ, List.getElem_cons_zero, List.setIfInBounds_toArray, List.set_cons_zero, List.set_cons_succ]
           refine wpAnyJ_take0 (i := 6) (v := ?_) rfl (by kernel_rfl) (by kernel_rfl) (by kernel_rfl) (fun _ _ _ h => h) (by rfl) (Or.inl ⟨by rfl, ?_⟩) (by assumption) ?_
           rotate_left 1
           · intro w hSw; (try dsimp only at hSw); go_simp <;> (try with_reducible rfl)
           try simp only [Act.put, List.getElem_toArray, List.getElem_cons_succ, List.getElem_cons_zero, List.setIfInBounds_toArray, List.set_cons_zero, List.set_cons_succ]
           refine wpAnyJ_take0 (i := 18) (v := ?_) rfl (by kernel_rfl) (by kernel_rfl) (by kernel_rfl) (fun _ _ _ h => h) (by rfl) (Or.inl ⟨by rfl, ?_⟩) (by assumption) ?_
           rotate_left 1
           · intro w hSw; (try dsimp only at hSw); go_simp <;> (try with_reducible rfl)
           try simp only [Act.put, List.getElem_toArray, List.getElem_cons_succ, List.getElem_cons_zero, List.setIfInBounds_toArray, List.set_cons_zero, List.set_cons_succ]
           refine wpAnyJ_ready (rs := [19, 25]) (by kernel_rfl) (by simp) ?_
           refine AllReadyJ.cons (o := _) rfl (fun Kq hKq => ?_) ?_
           · go_simp
             go_at_call 50
             have hfz := hbC.out.size
             refine (hsg.out X hbC.out).mono ?_
             rintro e X ⟨vV, vP, vG, rfl, ⟨AV, mV, cV, rfl⟩, hP, hG, fP, fG, hal⟩
             obtain ⟨AP, cP, rfl, -, -⟩ := hP.mk_
             obtain ⟨AG, cG, rfl, -, -⟩ := hG.mk_
             replace hZ := hZ.below hal
             replace hbC := Lib.hid (bgo hbC.out hal)
             replace fP := fP.mono hfz
             replace fG := fG.mono hfz
             clear hal hfz
             go_wp2_with fail
             refine hKq.out _ _ ?_ (fun hHeld => ?_)
             · intro _; (try dsimp only); (first | exact K.out _ hbC.out | exact K.out _ (bdrew W2))
             clear hKq Kq
             try simp only [Act.put, List.getElem_toArray, List.getElem_cons_succ, List.getElem_cons_zero, List.setIfInBounds_toArray, List.set_cons_zero, List.set_cons_succ]
             refine wpAnyJ_take0 (i := 20) (v := ?_) rfl (by kernel_rfl) (by kernel_rfl) (by kernel_rfl) (fun _ _ _ h => h) (by rfl) (Or.inl ⟨by rfl, ?_⟩) (by assumption) ?_
             rotate_left 1
             · intro w hSw; (try dsimp only at hSw); go_simp <;> (try with_reducible rfl)
             try simp only [Act.put, List.getElem_toArray, List.getElem_cons_succ, List.getElem_cons_zero, List.setIfInBounds_toArray, List.set_cons_zero, List.set_cons_succ]
             refine wpAnyJ_take0 (i := 21) (v := ?_) rfl (by kernel_rfl) (by kernel_rfl) (by kernel_rfl) (fun _ _ _ h => h) (by rfl) (Or.inl ⟨by rfl, ?_⟩) (by assumption) ?_
             rotate_left 1
             · intro w hSw; (try dsimp only at hSw); go_simp <;> (try with_reducible rfl)
             try simp only [Act.put, List.getElem_toArray, List.getElem_cons_succ, List.getElem_cons_zero, List.setIfInBounds_toArray, List.set_cons_zero, List.set_cons_succ]
             refine wpAnyJ_take0 (i := 22) (v := ?_) rfl (by kernel_rfl) (by kernel_rfl) (by kernel_rfl) (fun _ _ _ h => h) (by rfl) (Or.inl ⟨by rfl, ?_⟩) (by assumption) ?_
             rotate_left 1
             · intro w hSw; (try dsimp only at hSw); go_simp <;> (try with_reducible rfl)
             try simp only [Act.put, List.getElem_toArray, List.getElem_cons_succ, List.getElem_cons_zero, List.setIfInBounds_toArray, List.set_cons_zero, List.set_cons_succ]
             refine wpAnyJ_take0 (i := 23) (v := ?_) rfl (by kernel_rfl) (by kernel_rfl) (by kernel_rfl) (fun _ _ _ h => h) (by rfl) (Or.inl ⟨by rfl, ?_⟩) (by assumption) ?_
             rotate_left 1
             · intro w hSw; (try dsimp only at hSw); go_simp <;> (try with_reducible rfl)
             try simp only [Act.put, List.getElem_toArray, List.getElem_cons_succ, List.getElem_cons_zero, List.setIfInBounds_toArray, List.set_cons_zero, List.set_cons_succ]
             refine wpAnyJ_ready (rs := [25]) (by kernel_rfl) (by simp) ?_
             refine AllReadyJ.cons (o := _) rfl (fun Kq hKq => ?_) ?_
             · go_simp
               have hal := balloc X (.cells #[.string { data := #[] }, .slice none 0 0, .int .i64 0, .int .i64 0, .slice none 0 0] 70)
               have hC := Box.new X 70 [.string { data := #[] }, .slice none 0 0, .int .i64 0, .int .i64 0, .slice none 0 0]
               change Box (X.alloc (.cells #[.string { data := #[] }, .slice none 0 0, .int .i64 0, .int .i64 0, .slice none 0 0] 70)) _ _ _ at hC
               have hg13 := hbC.out.size
               have hne := Nat.ne_of_lt hZ.lt
               replace hZ := hZ.below hal
               replace hP := seesB_of hP (Nat.le_refl _) hal
               replace hG := seesB_of hG (Nat.le_refl _) hal
               replace hbC := Lib.hid (bgo hbC.out hal)
               clear hal
               generalize X.heap.size = g13 at hC hg13 hne ⊢
               generalize X.alloc (.cells #[.string { data := #[] }, .slice none 0 0, .int .i64 0, .int .i64 0, .slice none 0 0] 70) = X at *
               refine hKq.out _ _ ?_ (fun hHeld => ?_)
               · intro _; (try dsimp only); (first | exact K.out _ hbC.out | exact K.out _ (bdrew W2))
               clear hKq Kq
               try simp only [Act.put, List.getElem_toArray, List.getElem_cons_succ, List.getElem_cons_zero, List.setIfInBounds_toArray, List.set_cons_zero, List.set_cons_succ]
               refine wpAnyJ_ready (rs := [26]) (by kernel_rfl) (by simp) ?_
               refine AllReadyJ.cons (o := _) rfl (fun Kq hKq => ?_) ?_
               · skip
                 obtain ⟨e0, e1, e2, j0, j1, j2⟩ := box3_cells hZ
                 go_simp
                 clear e0 e1 e2 j0 j1 j2
                 have hZ2 := lset3 hZ (.slice AV mV cV) (.int .i64 0) (.int .i64 1)
                 have hC2 := off3 hC hne (.slice AV mV cV) (.int .i64 0) (.int .i64 1)
                 have hP2 := sees_s3 hZ (noBL3' (NoB.s none 0 0) (NoB.i 0) (NoB.i 0)) (.slice AV mV cV) (.int .i64 0) (.int .i64 1) hP
                 have hG2 := sees_s3 hZ (noBL3' (NoB.s none 0 0) (NoB.i 0) (NoB.i 0)) (.slice AV mV cV) (.int .i64 0) (.int .i64 1) hG
                 have hb2 := ((hbC.out.setCell (p := ⟨g12, 0, none⟩) hg12 (.slice AV mV cV)).setCell (p := ⟨g12, 1, none⟩) hg12 (.int .i64 0)).setCell (p := ⟨g12, 2, none⟩) hg12 (.int .i64 1)
                 generalize ((X.setCell ⟨g12, 0, none⟩ (.slice AV mV cV)).setCell ⟨g12, 1, none⟩ (.int .i64 0)).setCell ⟨g12, 2, none⟩ (.int .i64 1) = Y at *
                 refine hKq.out _ _ ?_ (fun hHeld => ?_)
                 · intro hl; exact absurd hl (by decide)
                 clear hKq Kq
                 try simp only [Act.put, List.getElem_toArray, List.getElem_cons_succ, List.getElem_cons_zero, List.setIfInBounds_toArray, List.set_cons_zero, List.set_cons_succ]
                 refine wpAnyJ_ready (rs := [27]) (by kernel_rfl) (by simp) ?_
                 refine AllReadyJ.cons (o := _) rfl (fun Kq hKq => ?_) ?_
                 · skip
                   obtain ⟨e0, e1, e2, e3, e4⟩ := box5_cells hC2
                   have j0 := hC2.frozen 0
                   have j1 := hC2.frozen 1
                   have j2 := hC2.frozen 2
                   have j3 := hC2.frozen 3
                   have j4 := hC2.frozen 4
                   go_simp
                   refine hKq.out _ _ ?_ (fun hHeld => ?_)
                   · intro hl; exact absurd hl (by decide)
                   clear hKq Kq
                   try simp only [Act.put, List.getElem_toArray, List.getElem_cons_succ, List.getElem_cons_zero, List.setIfInBounds_toArray, List.set_cons_zero, List.set_cons_succ]
                   refine wpAnyJ_take0 (i := 28) (v := ?_) rfl (by kernel_rfl) (by kernel_rfl) (by kernel_rfl) (fun _ _ _ h => h) (by rfl) (Or.inl ⟨by rfl, ?_⟩) (by assumption) ?_
                   rotate_left 1
                   · intro w hSw; (try dsimp only at hSw); go_simp <;> (try with_reducible rfl)
                   try simp only [Act.put, List.getElem_toArray, List.getElem_cons_succ, List.getElem_cons_zero, List.setIfInBounds_toArray, List.set_cons_zero, List.set_cons_succ]
                   refine wpAnyJ_done (by kernel_rfl) ?_ _
                   clear e0 e1 e2 e3 e4 j0 j1 j2 j3 j4 hHeld
                   go_wp2_with fail
                   go_meet
                   exact cert_mid hC2 hg13 hP2 hG2 fP fG hb2
                 exact AllReadyJ.nil
               exact AllReadyJ.nil
             exact AllReadyJ.nil
           refine AllReadyJ.cons (o := _) rfl (fun Kq hKq => ?_) ?_
           · go_simp
             have hal := balloc X (.cells #[.string { data := #[] }, .slice none 0 0, .int .i64 0, .int .i64 0, .slice none 0 0] 70)
             have hC := Box.new X 70 [.string { data := #[] }, .slice none 0 0, .int .i64 0, .int .i64 0, .slice none 0 0]
             change Box (X.alloc (.cells #[.string { data := #[] }, .slice none 0 0, .int .i64 0, .int .i64 0, .slice none 0 0] 70)) _ _ _ at hC
             have hg13 := hbC.out.size
             have hne := Nat.ne_of_lt hZ.lt
             replace hZ := hZ.below hal
             replace hbC := Lib.hid (bgo hbC.out hal)
             clear hal
             generalize X.heap.size = g13 at hC hg13 hne ⊢
             generalize X.alloc (.cells #[.string { data := #[] }, .slice none 0 0, .int .i64 0, .int .i64 0, .slice none 0 0] 70) = X at *
             refine hKq.out _ _ ?_ (fun hHeld => ?_)
             · intro _; (try dsimp only); (first | exact K.out _ hbC.out | exact K.out _ (bdrew W2))
             clear hKq Kq
             try simp only [Act.put, List.getElem_toArray, List.getElem_cons_succ, List.getElem_cons_zero, List.setIfInBounds_toArray, List.set_cons_zero, List.set_cons_succ]
             refine wpAnyJ_ready (rs := [19]) (by kernel_rfl) (by simp) ?_
             refine AllReadyJ.cons (o := _) rfl (fun Kq hKq => ?_) ?_
             · go_simp
               go_at_call 50
               have hfz := hbC.out.size
               refine (hsg.out X hbC.out).mono ?_
               rintro e X ⟨vV, vP, vG, rfl, ⟨AV, mV, cV, rfl⟩, hP, hG, fP, fG, hal⟩
               obtain ⟨AP, cP, rfl, -, -⟩ := hP.mk_
               obtain ⟨AG, cG, rfl, -, -⟩ := hG.mk_
               replace hZ := hZ.below hal
               replace hC := hC.below hal
               replace hbC := Lib.hid (bgo hbC.out hal)
               replace fP := fP.mono hfz
               replace fG := fG.mono hfz
               clear hal hfz
               go_wp2_with fail
               refine hKq.out _ _ ?_ (fun hHeld => ?_)
               · intro _; (try dsimp only); (first | exact K.out _ hbC.out | exact K.out _ (bdrew W2))
               clear hKq Kq
               try simp only [Act.put, List.getElem_toArray, List.getElem_cons_succ, List.getElem_cons_zero, List.setIfInBounds_toArray, List.set_cons_zero, List.set_cons_succ]
               refine wpAnyJ_take0 (i := 20) (v := ?_) rfl (by kernel_rfl) (by kernel_rfl) (by kernel_rfl) (fun _ _ _ h => h) (by rfl) (Or.inl ⟨by rfl, ?_⟩) (by assumption) ?_
               rotate_left 1
               · intro w hSw; (try dsimp only at hSw); go_simp <;> (try with_reducible rfl)
               try simp only [Act.put, List.getElem_toArray, List.getElem_cons_succ, List.getElem_cons_zero, List.setIfInBounds_toArray, List.set_cons_zero, List.set_cons_succ]
               refine wpAnyJ_take0 (i := 21) (v := ?_) rfl (by kernel_rfl) (by kernel_rfl) (by kernel_rfl) (fun _ _ _ h => h) (by rfl) (Or.inl ⟨by rfl, ?_⟩) (by assumption) ?_
               rotate_left 1
               · intro w hSw; (try dsimp only at hSw); go_simp <;> (try with_reducible rfl)
               try simp only [Act.put, List.getElem_toArray, List.getElem_cons_succ, List.getElem_cons_zero, List.setIfInBounds_toArray, List.set_cons_zero, List.set_cons_succ]
               refine wpAnyJ_take0 (i := 22) (v := ?_) rfl (by kernel_rfl) (by kernel_rfl) (by kernel_rfl) (fun _ _ _ h => h) (by rfl) (Or.inl ⟨by rfl, ?_⟩) (by assumption) ?_
               rotate_left 1
               · intro w hSw; (try dsimp only at hSw); go_simp <;> (try with_reducible rfl)
               try simp only [Act.put, List.getElem_toArray, List.getElem_cons_succ, List.getElem_cons_zero, List.setIfInBounds_toArray, List.set_cons_zero, List.set_cons_succ]
               refine wpAnyJ_take0 (i := 23) (v := ?_) rfl (by kernel_rfl) (by kernel_rfl) (by kernel_rfl) (fun _ _ _ h => h) (by rfl) (Or.inl ⟨by rfl, ?_⟩) (by assumption) ?_
               rotate_left 1
               · intro w hSw; (try dsimp only at hSw); go_simp <;> (try with_reducible rfl)
               try simp only [Act.put, List.getElem_toArray, List.getElem_cons_succ, List.getElem_cons_zero, List.setIfInBounds_toArray, List.set_cons_zero, List.set_cons_succ]
               refine wpAnyJ_ready (rs := [26]) (by kernel_rfl) (by simp) ?_
               refine AllReadyJ.cons (o := _) rfl (fun Kq hKq => ?_) ?_
               · skip
                 obtain ⟨e0, e1, e2, j0, j1, j2⟩ := box3_cells hZ
                 go_simp
                 clear e0 e1 e2 j0 j1 j2
                 have hZ2 := lset3 hZ (.slice AV mV cV) (.int .i64 0) (.int .i64 1)
                 have hC2 := off3 hC hne (.slice AV mV cV) (.int .i64 0) (.int .i64 1)
                 have hP2 := sees_s3 hZ (noBL3' (NoB.s none 0 0) (NoB.i 0) (NoB.i 0)) (.slice AV mV cV) (.int .i64 0) (.int .i64 1) hP
                 have hG2 := sees_s3 hZ (noBL3' (NoB.s none 0 0) (NoB.i 0) (NoB.i 0)) (.slice AV mV cV) (.int .i64 0) (.int .i64 1) hG
                 have hb2 := ((hbC.out.setCell (p := ⟨g12, 0, none⟩) hg12 (.slice AV mV cV)).setCell (p := ⟨g12, 1, none⟩) hg12 (.int .i64 0)).setCell (p := ⟨g12, 2, none⟩) hg12 (.int .i64 1)
                 generalize ((X.setCell ⟨g12, 0, none⟩ (.slice AV mV cV)).setCell ⟨g12, 1, none⟩ (.int .i64 0)).setCell ⟨g12, 2, none⟩ (.int .i64 1) = Y at *
                 refine hKq.out _ _ ?_ (fun hHeld => ?_)
                 · intro hl; exact absurd hl (by decide)
                 clear hKq Kq
                 try simp only [Act.put, List.getElem_toArray, List.getElem_cons_succ, List.getElem_cons_zero, List.setIfInBounds_toArray, List.set_cons_zero, List.set_cons_succ]
                 refine wpAnyJ_ready (rs := [27]) (by kernel_rfl) (by simp) ?_
                 refine AllReadyJ.cons (o := _) rfl (fun Kq hKq => ?_) ?_
                 · skip
                   obtain ⟨e0, e1, e2, e3, e4⟩ := box5_cells hC2
                   have j0 := hC2.frozen 0
                   have j1 := hC2.frozen 1
                   have j2 := hC2.frozen 2
                   have j3 := hC2.frozen 3
                   have j4 := hC2.frozen 4
                   go_simp
                   refine hKq.out _ _ ?_ (fun hHeld => ?_)
                   · intro hl; exact absurd hl (by decide)
                   clear hKq Kq
                   try simp only [Act.put, List.getElem_toArray, List.getElem_cons_succ, List.getElem_cons_zero, List.setIfInBounds_toArray, List.set_cons_zero, List.set_cons_succ]
                   refine wpAnyJ_take0 (i := 28) (v := ?_) rfl (by kernel_rfl) (by kernel_rfl) (by kernel_rfl) (fun _ _ _ h => h) (by rfl) (Or.inl ⟨by rfl, ?_⟩) (by assumption) ?_
                   rotate_left 1
                   · intro w hSw; (try dsimp only at hSw); go_simp <;> (try with_reducible rfl)
                   try simp only [Act.put, List.getElem_toArray, List.getElem_cons_succ, List.getElem_cons_zero, List.setIfInBounds_toArray, List.set_cons_zero, List.set_cons_succ]
                   refine wpAnyJ_done (by kernel_rfl) ?_ _
                   clear e0 e1 e2 e3 e4 j0 j1 j2 j3 j4 hHeld
                   go_wp2_with fail
                   go_meet
                   exact cert_mid hC2 hg13 hP2 hG2 fP fG hb2
                 exact AllReadyJ.nil
               exact AllReadyJ.nil
             exact AllReadyJ.nil
           exact AllReadyJ.nil
         refine AllReadyJ.cons (o := _) rfl (fun Kq hKq => ?_) ?_
         · go_simp
           have hal := balloc X (.cells #[.string { data := #[] }, .slice none 0 0, .int .i64 0, .int .i64 0, .slice none 0 0] 70)
           have hC := Box.new X 70 [.string { data := #[] }, .slice none 0 0, .int .i64 0, .int .i64 0, .slice none 0 0]
           change Box (X.alloc (.cells #[.string { data := #[] }, .slice none 0 0, .int .i64 0, .int .i64 0, .slice none 0 0] 70)) _ _ _ at hC
           have hg13 := hbC.out.size
           have hne := Nat.ne_of_lt hZ.lt
           replace hB := hB.below hal
           replace hZ := hZ.below hal
           replace hbC := Lib.hid (bgo hbC.out hal)
           clear hal
           generalize X.heap.size = g13 at hC hg13 hne ⊢
           generalize X.alloc (.cells #[.string { data := #[] }, .slice none 0 0, .int .i64 0, .int .i64 0, .slice none 0 0] 70) = X at *
           refine hKq.out _ _ ?_ (fun hHeld => ?_)
           · intro _; (try dsimp only); (first | exact K.out _ hbC.out | exact K.out _ (bdrew W2))
           clear hKq Kq
           try simp only [Act.put, List.getElem_toArray, List.getElem_cons_succ, List.getElem_cons_zero, List.setIfInBounds_toArray, List.set_cons_zero, List.set_cons_succ]
           refine wpAnyJ_ready (rs := [5]) (by kernel_rfl) (by simp) ?_
           refine AllReadyJ.cons (o := _) rfl (fun Kq hKq => ?_) ?_
           · skip
             have hcv := hstr.out X gB (hB.cell 0)
             go_simp
             clear hB hcv
             refine hKq.out _ _ ?_ (fun hHeld => ?_)
             · intro _; (try dsimp only); (first | exact K.out _ hbC.out | exact K.out _ (bdrew W2))
             clear hKq Kq
             try simp only [Act.put, List.getElem_toArray, List.getElem_cons_succ, List.getElem_cons_zero, List.setIfInBounds_toArray, List.set_cons_zero, List.set_cons_succ]
             refine wpAnyJ_take0 (i := 6) (v := ?_) rfl (by kernel_rfl) (by kernel_rfl) (by kernel_rfl) (fun _ _ _ h => h) (by rfl) (Or.inl ⟨by rfl, ?_⟩) (by assumption) ?_
             rotate_left 1
             · intro w hSw; (try dsimp only at hSw); go_simp <;> (try with_reducible rfl)
             try simp only [Act.put, List.getElem_toArray, List.getElem_cons_succ, List.getElem_cons_zero, List.setIfInBounds_toArray, List.set_cons_zero, List.set_cons_succ]
             refine wpAnyJ_take0 (i := 18) (v := ?_) rfl (by kernel_rfl) (by kernel_rfl) (by kernel_rfl) (fun _ _ _ h => h) (by rfl) (Or.inl ⟨by rfl, ?_⟩) (by assumption) ?_
             rotate_left 1
             · intro w hSw; (try dsimp only at hSw); go_simp <;> (try with_reducible rfl)
             try simp only [Act.put, List.getElem_toArray, List.getElem_cons_succ, List.getElem_cons_zero, List.setIfInBounds_toArray, List.set_cons_zero, List.set_cons_succ]
             refine wpAnyJ_ready (rs := [19]) (by kernel_rfl) (by simp) ?_
             refine AllReadyJ.cons (o := _) rfl (fun Kq hKq => ?_) ?_
             · go_simp
               go_at_call 50
               have hfz := hbC.out.size
               refine (hsg.out X hbC.out).mono ?_
               rintro e X ⟨vV, vP, vG, rfl, ⟨AV, mV, cV, rfl⟩, hP, hG, fP, fG, hal⟩
               obtain ⟨AP, cP, rfl, -, -⟩ := hP.mk_
               obtain ⟨AG, cG, rfl, -, -⟩ := hG.mk_
               replace hZ := hZ.below hal
               replace hC := hC.below hal
               replace hbC := Lib.hid (bgo hbC.out hal)
               replace fP := fP.mono hfz
               replace fG := fG.mono hfz
               clear hal hfz
               go_wp2_with fail
               refine hKq.out _ _ ?_ (fun hHeld => ?_)
               · intro _; (try dsimp only); (first | exact K.out _ hbC.out | exact K.out _ (bdrew W2))
               clear hKq Kq
               try simp only [Act.put, List.getElem_toArray, List.getElem_cons_succ, List.getElem_cons_zero, List.setIfInBounds_toArray, List.set_cons_zero, List.set_cons_succ]
               refine wpAnyJ_take0 (i := 20) (v := ?_) rfl (by kernel_rfl) (by kernel_rfl) (by kernel_rfl) (fun _ _ _ h => h) (by rfl) (Or.inl ⟨by rfl, ?_⟩) (by assumption) ?_
               rotate_left 1
               · intro w hSw; (try dsimp only at hSw); go_simp <;> (try with_reducible rfl)
               try simp only [Act.put, List.getElem_toArray, List.getElem_cons_succ, List.getElem_cons_zero, List.setIfInBounds_toArray, List.set_cons_zero, List.set_cons_succ]
               refine wpAnyJ_take0 (i := 21) (v := ?_) rfl (by kernel_rfl) (by kernel_rfl) (by kernel_rfl) (fun _ _ _ h => h) (by rfl) (Or.inl ⟨by rfl, ?_⟩) (by assumption) ?_
               rotate_left 1
               · intro w hSw; (try dsimp only at hSw); go_simp <;> (try with_reducible rfl)
               try simp only [Act.put, List.getElem_toArray, List.getElem_cons_succ, List.getElem_cons_zero, List.setIfInBounds_toArray, List.set_cons_zero, List.set_cons_succ]
               refine wpAnyJ_take0 (i := 22) (v := ?_) rfl (by kernel_rfl) (by kernel_rfl) (by kernel_rfl) (fun _ _ _ h => h) (by rfl) (Or.inl ⟨by rfl, ?_⟩) (by assumption) ?_
               rotate_left 1
               · intro w hSw; (try dsimp only at hSw); go_simp <;> (try with_reducible rfl)
               try simp only [Act.put, List.getElem_toArray, List.getElem_cons_succ, List.getElem_cons_zero, List.setIfInBounds_toArray, List.set_cons_zero, List.set_cons_succ]
               refine wpAnyJ_take0 (i := 23) (v := ?_) rfl (by kernel_rfl) (by kernel_rfl) (by kernel_rfl) (fun _ _ _ h => h) (by rfl) (Or.inl ⟨by rfl, ?_⟩) (by assumption) ?_
               rotate_left 1
               · intro w hSw; (try dsimp only at hSw); go_simp <;> (try with_reducible rfl)
               try simp only [Act.put, List.getElem_toArray, List.getElem_cons_succ, List.getElem_cons_zero, List.setIfInBounds_toArray, List.set_cons_zero, List.set_cons_succ]
               refine wpAnyJ_ready (rs := [26]) (by kernel_rfl) (by simp) ?_
               refine AllReadyJ.cons (o := _) rfl (fun Kq hKq => ?_) ?_
               · skip
                 obtain ⟨e0, e1, e2, j0, j1, j2⟩ := box3_cells hZ
                 go_simp
                 clear e0 e1 e2 j0 j1 j2
                 have hZ2 := lset3 hZ (.slice AV mV cV) (.int .i64 0) (.int .i64 1)
                 have hC2 := off3 hC hne (.slice AV mV cV) (.int .i64 0) (.int .i64 1)
                 have hP2 := sees_s3 hZ (noBL3' (NoB.s none 0 0) (NoB.i 0) (NoB.i 0)) (.slice AV mV cV) (.int .i64 0) (.int .i64 1) hP
                 have hG2 := sees_s3 hZ (noBL3' (NoB.s none 0 0) (NoB.i 0) (NoB.i 0)) (.slice AV mV cV) (.int .i64 0) (.int .i64 1) hG
                 have hb2 := ((hbC.out.setCell (p := ⟨g12, 0, none⟩) hg12 (.slice AV mV cV)).setCell (p := ⟨g12, 1, none⟩) hg12 (.int .i64 0)).setCell (p := ⟨g12, 2, none⟩) hg12 (.int .i64 1)
                 generalize ((X.setCell ⟨g12, 0, none⟩ (.slice AV mV cV)).setCell ⟨g12, 1, none⟩ (.int .i64 0)).setCell ⟨g12, 2, none⟩ (.int .i64 1) = Y at *
                 refine hKq.out _ _ ?_ (fun hHeld => ?_)
                 · intro hl; exact absurd hl (by decide)
                 clear hKq Kq
                 try simp only [Act.put, List.getElem_toArray, List.getElem_cons_succ, List.getElem_cons_zero, List.setIfInBounds_toArray, List.set_cons_zero, List.set_cons_succ]
                 refine wpAnyJ_ready (rs := [27]) (by kernel_rfl) (by simp) ?_
                 refine AllReadyJ.cons (o := _) rfl (fun Kq hKq => ?_) ?_
                 · skip
                   obtain ⟨e0, e1, e2, e3, e4⟩ := box5_cells hC2
                   have j0 := hC2.frozen 0
                   have j1 := hC2.frozen 1
                   have j2 := hC2.frozen 2
                   have j3 := hC2.frozen 3
                   have j4 := hC2.frozen 4
                   go_simp
                   refine hKq.out _ _ ?_ (fun hHeld => ?_)
                   · intro hl; exact absurd hl (by decide)
                   clear hKq Kq
                   try simp only [Act.put, List.getElem_toArray, List.getElem_cons_succ, List.getElem_cons_zero, List.setIfInBounds_toArray, List.set_cons_zero, List.set_cons_succ]
                   refine wpAnyJ_take0 (i := 28) (v := ?_) rfl (by kernel_rfl) (by kernel_rfl) (by kernel_rfl) (fun _ _ _ h => h) (by rfl) (Or.inl ⟨by rfl, ?_⟩) (by assumption) ?_
                   rotate_left 1
                   · intro w hSw; (try dsimp only at hSw); go_simp <;> (try with_reducible rfl)
                   try simp only [Act.put, List.getElem_toArray, List.getElem_cons_succ, List.getElem_cons_zero, List.setIfInBounds_toArray, List.set_cons_zero, List.set_cons_succ]
                   refine wpAnyJ_done (by kernel_rfl) ?_ _
                   clear e0 e1 e2 e3 e4 j0 j1 j2 j3 j4 hHeld
                   go_wp2_with fail
                   go_meet
                   exact cert_mid hC2 hg13 hP2 hG2 fP fG hb2
                 exact AllReadyJ.nil
               exact AllReadyJ.nil
             exact AllReadyJ.nil
           exact AllReadyJ.nil
         exact AllReadyJ.nil
       refine AllReadyJ.cons (o := _) rfl (fun Kq hKq => ?_) ?_
       · go_simp
         have hal := balloc X (.cells #[.string { data := #[] }, .slice none 0 0, .int .i64 0, .int .i64 0, .slice none 0 0] 70)
         have hC := Box.new X 70 [.string { data := #[] }, .slice none 0 0, .int .i64 0, .int .i64 0, .slice none 0 0]
         change Box (X.alloc (.cells #[.string { data := #[] }, .slice none 0 0, .int .i64 0, .int .i64 0, .slice none 0 0] 70)) _ _ _ at hC
         have hg13 := hbC.out.size
         have hne := Nat.ne_of_lt hZ.lt
         replace hZ := hZ.below hal
         replace hbC := Lib.hid (bgo hbC.out hal)
         clear hal
         generalize X.heap.size = g13 at hC hg13 hne ⊢
         generalize X.alloc (.cells #[.string { data := #[] }, .slice none 0 0, .int .i64 0, .int .i64 0, .slice none 0 0] 70) = X at *
         refine hKq.out _ _ ?_ (fun hHeld => ?_)
         · intro _; (try dsimp only); (first | exact K.out _ hbC.out | exact K.out _ (bdrew W2))
         clear hKq Kq
         try simp only [Act.put, List.getElem_toArray, List.getElem_cons_succ, List.getElem_cons_zero, List.setIfInBounds_toArray, List.set_cons_zero, List.set_cons_succ]
         refine wpAnyJ_ready (rs := [4]) (by kernel_rfl) (by simp) ?_
         refine AllReadyJ.cons (o := _) rfl (fun Kq hKq => ?_) ?_
         · go_simp
           have hal := balloc X (.cells #[.int .u8 (48 + (i : Int))] 5)
           have hB := Box.new X 5 [.int .u8 (48 + (i : Int))]
           change Box (X.alloc (.cells #[.int .u8 (48 + (i : Int))] 5)) _ _ _ at hB
           replace hZ := hZ.below hal
           replace hC := hC.below hal
           replace hbC := Lib.hid (bgo hbC.out hal)
           clear hal
           generalize X.heap.size = gB at hB ⊢
           generalize X.alloc (.cells #[.int .u8 (48 + (i : Int))] 5) = X at *
           refine hKq.out _ _ ?_ (fun hHeld => ?_)
           · intro _; (try dsimp only); (first | exact K.out _ hbC.out | exact K.out _ (bdrew W2))
           clear hKq Kq
           try simp only [Act.put, List.getElem_toArray, List.getElem_cons_succ, List.getElem_cons_zero, List.setIfInBounds_toArray, List.set_cons_zero, List.set_cons_succ]
           refine wpAnyJ_ready (rs := [5]) (by kernel_rfl) (by simp) ?_
           refine AllReadyJ.cons (o := _) rfl (fun Kq hKq => ?_) ?_
           · skip
             have hcv := hstr.out X gB (hB.cell 0)
             go_simp
             clear hB hcv
             refine hKq.out _ _ ?_ (fun hHeld => ?_)
             · intro _; (try dsimp only); (first | exact K.out _ hbC.out | exact K.out _ (bdrew W2))
             clear hKq Kq
             try simp only [Act.put, List.getElem_toArray, List.getElem_cons_succ, List.getElem_cons_zero, List.setIfInBounds_toArray, List.set_cons_zero, List.set_cons_succ]
             refine wpAnyJ_take0 (i := 6) (v := ?_) rfl (by kernel_rfl) (by kernel_rfl) (by kernel_rfl) (fun _ _ _ h => h) (by rfl) (Or.inl ⟨by rfl, ?_⟩) (by assumption) ?_
             rotate_left 1
             · intro w hSw; (try dsimp only at hSw); go_simp <;> (try with_reducible rfl)
             try simp only [Act.put, List.getElem_toArray, List.getElem_cons_succ, List.getElem_cons_zero, List.setIfInBounds_toArray, List.set_cons_zero, List.set_cons_succ]
             refine wpAnyJ_take0 (i := 18) (v := ?_) rfl (by kernel_rfl) (by kernel_rfl) (by kernel_rfl) (fun _ _ _ h => h) (by rfl) (Or.inl ⟨by rfl, ?_⟩) (by assumption) ?_
             rotate_left 1
             · intro w hSw; (try dsimp only at hSw); go_simp <;> (try with_reducible rfl)
             try simp only [Act.put, List.getElem_toArray, List.getElem_cons_succ, List.getElem_cons_zero, List.setIfInBounds_toArray, List.set_cons_zero, List.set_cons_succ]
             refine wpAnyJ_ready (rs := [19]) (by kernel_rfl) (by simp) ?_
             refine AllReadyJ.cons (o := _) rfl (fun Kq hKq => ?_) ?_
             · go_simp
               go_at_call 50
               have hfz := hbC.out.size
               refine (hsg.out X hbC.out).mono ?_
               rintro e X ⟨vV, vP, vG, rfl, ⟨AV, mV, cV, rfl⟩, hP, hG, fP, fG, hal⟩
               obtain ⟨AP, cP, rfl, -, -⟩ := hP.mk_
               obtain ⟨AG, cG, rfl, -, -⟩ := hG.mk_
               replace hZ := hZ.below hal
               replace hC := hC.below hal
               replace hbC := Lib.hid (bgo hbC.out hal)
               replace fP := fP.mono hfz
               replace fG := fG.mono hfz
               clear hal hfz
               go_wp2_with fail
               refine hKq.out _ _ ?_ (fun hHeld => ?_)
               · intro _; (try dsimp only); (first | exact K.out _ hbC.out | exact K.out _ (bdrew W2))
               clear hKq Kq
               try simp only [Act.put, List.getElem_toArray, List.getElem_cons_succ, List.getElem_cons_zero, List.setIfInBounds_toArray, List.set_cons_zero, List.set_cons_succ]
               refine wpAnyJ_take0 (i := 20) (v := ?_) rfl (by kernel_rfl) (by kernel_rfl) (by kernel_rfl) (fun _ _ _ h => h) (by rfl) (Or.inl ⟨by rfl, ?_⟩) (by assumption) ?_
               rotate_left 1
               · intro w hSw; (try dsimp only at hSw); go_simp <;> (try with_reducible rfl)
               try simp only [Act.put, List.getElem_toArray, List.getElem_cons_succ, List.getElem_cons_zero, List.setIfInBounds_toArray, List.set_cons_zero, List.set_cons_succ]
               refine wpAnyJ_take0 (i := 21) (v := ?_) rfl (by kernel_rfl) (by kernel_rfl) (by kernel_rfl) (fun _ _ _ h => h) (by rfl) (Or.inl ⟨by rfl, ?_⟩) (by assumption) ?_
               rotate_left 1
               · intro w hSw; (try dsimp only at hSw); go_simp <;> (try with_reducible rfl)
               try simp only [Act.put, List.getElem_toArray, List.getElem_cons_succ, List.getElem_cons_zero, List.setIfInBounds_toArray, List.set_cons_zero, List.set_cons_succ]
               refine wpAnyJ_take0 (i := 22) (v := ?_) rfl (by kernel_rfl) (by kernel_rfl) (by kernel_rfl) (fun _ _ _ h => h) (by rfl) (Or.inl ⟨by rfl, ?_⟩) (by assumption) ?_
               rotate_left 1
               · intro w hSw; (try dsimp only at hSw); go_simp <;> (try with_reducible rfl)
               try simp only [Act.put, List.getElem_toArray, List.getElem_cons_succ, List.getElem_cons_zero, List.setIfInBounds_toArray, List.set_cons_zero, List.set_cons_succ]
               refine wpAnyJ_take0 (i := 23) (v := ?_) rfl (by kernel_rfl) (by kernel_rfl) (by kernel_rfl) (fun _ _ _ h => h) (by rfl) (Or.inl ⟨by rfl, ?_⟩) (by assumption) ?_
               rotate_left 1
               · intro w hSw; (try dsimp only at hSw); go_simp <;> (try with_reducible rfl)
               try simp only [Act.put, List.getElem_toArray, List.getElem_cons_succ, List.getElem_cons_zero, List.setIfInBounds_toArray, List.set_cons_zero, List.set_cons_succ]
               refine wpAnyJ_ready (rs := [26]) (by kernel_rfl) (by simp) ?_
               refine AllReadyJ.cons (o := _) rfl (fun Kq hKq => ?_) ?_
               · skip
                 obtain ⟨e0, e1, e2, j0, j1, j2⟩ := box3_cells hZ
                 go_simp
                 clear e0 e1 e2 j0 j1 j2
                 have hZ2 := lset3 hZ (.slice AV mV cV) (.int .i64 0) (.int .i64 1)
                 have hC2 := off3 hC hne (.slice AV mV cV) (.int .i64 0) (.int .i64 1)
                 have hP2 := sees_s3 hZ (noBL3' (NoB.s none 0 0) (NoB.i 0) (NoB.i 0)) (.slice AV mV cV) (.int .i64 0) (.int .i64 1) hP
                 have hG2 := sees_s3 hZ (noBL3' (NoB.s none 0 0) (NoB.i 0) (NoB.i 0)) (.slice AV mV cV) (.int .i64 0) (.int .i64 1) hG
                 have hb2 := ((hbC.out.setCell (p := ⟨g12, 0, none⟩) hg12 (.slice AV mV cV)).setCell (p := ⟨g12, 1, none⟩) hg12 (.int .i64 0)).setCell (p := ⟨g12, 2, none⟩) hg12 (.int .i64 1)
                 generalize ((X.setCell ⟨g12, 0, none⟩ (.slice AV mV cV)).setCell ⟨g12, 1, none⟩ (.int .i64 0)).setCell ⟨g12, 2, none⟩ (.int .i64 1) = Y at *
                 refine hKq.out _ _ ?_ (fun hHeld => ?_)
                 · intro hl; exact absurd hl (by decide)
                 clear hKq Kq
                 try simp only [Act.put, List.getElem_toArray, List.getElem_cons_succ, List.getElem_cons_zero, List.setIfInBounds_toArray, List.set_cons_zero, List.set_cons_succ]
                 refine wpAnyJ_ready (rs := [27]) (by kernel_rfl) (by simp) ?_
                 refine AllReadyJ.cons (o := _) rfl (fun Kq hKq => ?_) ?_
                 · skip
                   obtain ⟨e0, e1, e2, e3, e4⟩ := box5_cells hC2
                   have j0 := hC2.frozen 0
                   have j1 := hC2.frozen 1
                   have j2 := hC2.frozen 2
                   have j3 := hC2.frozen 3
                   have j4 := hC2.frozen 4
                   go_simp
                   refine hKq.out _ _ ?_ (fun hHeld => ?_)
                   · intro hl; exact absurd hl (by decide)
                   clear hKq Kq
                   try simp only [Act.put, List.getElem_toArray, List.getElem_cons_succ, List.getElem_cons_zero, List.setIfInBounds_toArray, List.set_cons_zero, List.set_cons_succ]
                   refine wpAnyJ_take0 (i := 28) (v := ?_) rfl (by kernel_rfl) (by kernel_rfl) (by kernel_rfl) (fun _ _ _ h => h) (by rfl) (Or.inl ⟨by rfl, ?_⟩) (by assumption) ?_
                   rotate_left 1
                   · intro w hSw; (try dsimp only at hSw); go_simp <;> (try with_reducible rfl)
                   try simp only [Act.put, List.getElem_toArray, List.getElem_cons_succ, List.getElem_cons_zero, List.setIfInBounds_toArray, List.set_cons_zero, List.set_cons_succ]
                   refine wpAnyJ_done (by kernel_rfl) ?_ _
                   clear e0 e1 e2 e3 e4 j0 j1 j2 j3 j4 hHeld
                   go_wp2_with fail
                   go_meet
                   exact cert_mid hC2 hg13 hP2 hG2 fP fG hb2
                 exact AllReadyJ.nil
               exact AllReadyJ.nil
             exact AllReadyJ.nil
           exact AllReadyJ.nil
         exact AllReadyJ.nil
       exact AllReadyJ.nil
     refine AllReadyJ.cons (o := _) rfl (fun Kq hKq => ?_) ?_
     · go_simp
       have hal := balloc X (.cells #[.string { data := #[] }, .slice none 0 0, .int .i64 0, .int .i64 0, .slice none 0 0] 70)
       have hC := Box.new X 70 [.string { data := #[] }, .slice none 0 0, .int .i64 0, .int .i64 0, .slice none 0 0]
       change Box (X.alloc (.cells #[.string { data := #[] }, .slice none 0 0, .int .i64 0, .int .i64 0, .slice none 0 0] 70)) _ _ _ at hC
       have hg13 := hbC.out.size
       replace hbC := Lib.hid (bgo hbC.out hal)
       clear hal
       generalize X.heap.size = g13 at hC hg13 ⊢
       generalize X.alloc (.cells #[.string { data := #[] }, .slice none 0 0, .int .i64 0, .int .i64 0, .slice none 0 0] 70) = X at *
       refine hKq.out _ _ ?_ (fun hHeld => ?_)
       · intro _; (try dsimp only); (first | exact K.out _ hbC.out | exact K.out _ (bdrew W2))
       clear hKq Kq
       try simp only [Act.put, List.getElem_toArray, List.getElem_cons_succ, List.getElem_cons_zero, List.setIfInBounds_toArray, List.set_cons_zero, List.set_cons_succ]
       refine wpAnyJ_ready (rs := [4, 24]) (by kernel_rfl) (by simp) ?_
       refine AllReadyJ.cons (o := _) rfl (fun Kq hKq => ?_) ?_
       · go_simp
         have hal := balloc X (.cells #[.int .u8 (48 + (i : Int))] 5)
         have hB := Box.new X 5 [.int .u8 (48 + (i : Int))]
         change Box (X.alloc (.cells #[.int .u8 (48 + (i : Int))] 5)) _ _ _ at hB
         replace hC := hC.below hal
         replace hbC := Lib.hid (bgo hbC.out hal)
         clear hal
         generalize X.heap.size = gB at hB ⊢
         generalize X.alloc (.cells #[.int .u8 (48 + (i : Int))] 5) = X at *
         refine hKq.out _ _ ?_ (fun hHeld => ?_)
         · intro _; (try dsimp only); (first | exact K.out _ hbC.out | exact K.out _ (bdrew W2))
         clear hKq Kq
         try simp only [Act.put, List.getElem_toArray, List.getElem_cons_succ, List.getElem_cons_zero, List.setIfInBounds_toArray, List.set_cons_zero, List.set_cons_succ]
         refine wpAnyJ_ready (rs := [5, 24]) (by kernel_rfl) (by simp) ?_
         refine AllReadyJ.cons (o := _) rfl (fun Kq hKq => ?_) ?_
         · skip
           have hcv := hstr.out X gB (hB.cell 0)
           go_simp
           clear hB hcv
           refine hKq.out _ _ ?_ (fun hHeld => ?_)
           · intro _; (try dsimp only); (first | exact K.out _ hbC.out | exact K.out _ (bdrew W2))
           clear hKq Kq
           try simp only [Act.put, List.getElem_toArray, List.getElem_cons_succ, List.getElem_cons_zero, List.setIfInBounds_toArray, List.set_cons_zero, List.set_cons_succ]
           refine wpAnyJ_take0 (i := 6) (v := ?_) rfl (by kernel_rfl) (by kernel_rfl) (by kernel_rfl) (fun _ _ _ h => h) (by rfl) (Or.inl ⟨by rfl, ?_⟩) (by assumption) ?_
           rotate_left 1
           · intro w hSw; (try dsimp only at hSw); go_simp <;> (try with_reducible rfl)
           try simp only [Act.put, List.getElem_toArray, List.getElem_cons_succ, List.getElem_cons_zero, List.setIfInBounds_toArray, List.set_cons_zero, List.set_cons_succ]
           refine wpAnyJ_take0 (i := 18) (v := ?_) rfl (by kernel_rfl) (by kernel_rfl) (by kernel_rfl) (fun _ _ _ h => h) (by rfl) (Or.inl ⟨by rfl, ?_⟩) (by assumption) ?_
           rotate_left 1
           · intro w hSw; (try dsimp only at hSw); go_simp <;> (try with_reducible rfl)
           try simp only [Act.put, List.getElem_toArray, List.getElem_cons_succ, List.getElem_cons_zero, List.setIfInBounds_toArray, List.set_cons_zero, List.set_cons_succ]
           refine wpAnyJ_ready (rs := [19, 24]) (by kernel_rfl) (by simp) ?_
           refine AllReadyJ.cons (o := _) rfl (fun Kq hKq => ?_) ?_
           · go_simp
             go_at_call 50
             have hfz := hbC.out.size
             refine (hsg.out X hbC.out).mono ?_
             rintro e X ⟨vV, vP, vG, rfl, ⟨AV, mV, cV, rfl⟩, hP, hG, fP, fG, hal⟩
             obtain ⟨AP, cP, rfl, -, -⟩ := hP.mk_
             obtain ⟨AG, cG, rfl, -, -⟩ := hG.mk_
             replace hC := hC.below hal
             replace hbC := Lib.hid (bgo hbC.out hal)
             replace fP := fP.mono hfz
             replace fG := fG.mono hfz
             clear hal hfz
             go_wp2_with fail
             refine hKq.out _ _ ?_ (fun hHeld => ?_)
             · intro _; (try dsimp only); (first | exact K.out _ hbC.out | exact K.out _ (bdrew W2))
             clear hKq Kq
             try simp only [Act.put, List.getElem_toArray, List.getElem_cons_succ, List.getElem_cons_zero, List.setIfInBounds_toArray, List.set_cons_zero, List.set_cons_succ]
             refine wpAnyJ_take0 (i := 20) (v := ?_) rfl (by kernel_rfl) (by kernel_rfl) (by kernel_rfl) (fun _ _ _ h => h) (by rfl) (Or.inl ⟨by rfl, ?_⟩) (by assumption) ?_
             rotate_left 1
             · intro w hSw; (try dsimp only at hSw); go_simp <;> (try with_reducible rfl)
             try simp only [Act.put, List.getElem_toArray, List.getElem_cons_succ, List.getElem_cons_zero, List.setIfInBounds_toArray, List.set_cons_zero, List.set_cons_succ]
             refine wpAnyJ_take0 (i := 21) (v := ?_) rfl (by kernel_rfl) (by kernel_rfl) (by kernel_rfl) (fun _ _ _ h => h) (by rfl) (Or.inl ⟨by rfl, ?_⟩) (by assumption) ?_
             rotate_left 1
             · intro w hSw; (try dsimp only at hSw); go_simp <;> (try with_reducible rfl)
             try simp only [Act.put, List.getElem_toArray, List.getElem_cons_succ, List.getElem_cons_zero, List.setIfInBounds_toArray, List.set_cons_zero, List.set_cons_succ]
             refine wpAnyJ_take0 (i := 22) (v := ?_) rfl (by kernel_rfl) (by kernel_rfl) (by kernel_rfl) (fun _ _ _ h => h) (by rfl) (Or.inl ⟨by rfl, ?_⟩) (by assumption) ?_
             rotate_left 1
             · intro w hSw; (try dsimp only at hSw); go_simp <;> (try with_reducible rfl)
             try simp only [Act.put, List.getElem_toArray, List.getElem_cons_succ, List.getElem_cons_zero, List.setIfInBounds_toArray, List.set_cons_zero, List.set_cons_succ]
             refine wpAnyJ_take0 (i := 23) (v := ?_) rfl (by kernel_rfl) (by kernel_rfl) (by kernel_rfl) (fun _ _ _ h => h) (by rfl) (Or.inl ⟨by rfl, ?_⟩) (by assumption) ?_
             rotate_left 1
             · intro w hSw; (try dsimp only at hSw); go_simp <;> (try with_reducible rfl)
             try simp only [Act.put, List.getElem_toArray, List.getElem_cons_succ, List.getElem_cons_zero, List.setIfInBounds_toArray, List.set_cons_zero, List.set_cons_succ]
             refine wpAnyJ_ready (rs := [24]) (by kernel_rfl) (by simp) ?_
             refine AllReadyJ.cons (o := _) rfl (fun Kq hKq => ?_) ?_
             · go_simp
               have hal := balloc X (.cells #[.slice none 0 0, .int .i64 0, .int .i64 0] 27)
               have hZ := Box.new X 27 [.slice none 0 0, .int .i64 0, .int .i64 0]
               change Box (X.alloc (.cells #[.slice none 0 0, .int .i64 0, .int .i64 0] 27)) _ _ _ at hZ
               have hg12 := hbC.out.size
               have hne := Nat.ne_of_gt hC.lt
               replace hC := hC.below hal
               replace hP := seesB_of hP (Nat.le_refl _) hal
               replace hG := seesB_of hG (Nat.le_refl _) hal
               replace hbC := Lib.hid (bgo hbC.out hal)
               clear hal
               generalize X.heap.size = g12 at hZ hg12 hne ⊢
               generalize X.alloc (.cells #[.slice none 0 0, .int .i64 0, .int .i64 0] 27) = X at *
               refine hKq.out _ _ ?_ (fun hHeld => ?_)
               · intro _; (try dsimp only); (first | exact K.out _ hbC.out | exact K.out _ (bdrew W2))
               clear hKq Kq
               try simp only [Act.put, List.getElem_toArray, List.getElem_cons_succ, List.getElem_cons_zero, List.setIfInBounds_toArray, List.set_cons_zero, List.set_cons_succ]
               refine wpAnyJ_ready (rs := [26]) (by kernel_rfl) (by simp) ?_
               refine AllReadyJ.cons (o := _) rfl (fun Kq hKq => ?_) ?_
               · skip
                 obtain ⟨e0, e1, e2, j0, j1, j2⟩ := box3_cells hZ
                 go_simp
                 clear e0 e1 e2 j0 j1 j2
                 have hZ2 := lset3 hZ (.slice AV mV cV) (.int .i64 0) (.int .i64 1)
                 have hC2 := off3 hC hne (.slice AV mV cV) (.int .i64 0) (.int .i64 1)
                 have hP2 := sees_s3 hZ (noBL3' (NoB.s none 0 0) (NoB.i 0) (NoB.i 0)) (.slice AV mV cV) (.int .i64 0) (.int .i64 1) hP
                 have hG2 := sees_s3 hZ (noBL3' (NoB.s none 0 0) (NoB.i 0) (NoB.i 0)) (.slice AV mV cV) (.int .i64 0) (.int .i64 1) hG
                 have hb2 := ((hbC.out.setCell (p := ⟨g12, 0, none⟩) hg12 (.slice AV mV cV)).setCell (p := ⟨g12, 1, none⟩) hg12 (.int .i64 0)).setCell (p := ⟨g12, 2, none⟩) hg12 (.int .i64 1)
                 generalize ((X.setCell ⟨g12, 0, none⟩ (.slice AV mV cV)).setCell ⟨g12, 1, none⟩ (.int .i64 0)).setCell ⟨g12, 2, none⟩ (.int .i64 1) = Y at *
                 refine hKq.out _ _ ?_ (fun hHeld => ?_)
                 · intro hl; exact absurd hl (by decide)
                 clear hKq Kq
                 try simp only [Act.put, List.getElem_toArray, List.getElem_cons_succ, List.getElem_cons_zero, List.setIfInBounds_toArray, List.set_cons_zero, List.set_cons_succ]
                 refine wpAnyJ_ready (rs := [27]) (by kernel_rfl) (by simp) ?_
                 refine AllReadyJ.cons (o := _) rfl (fun Kq hKq => ?_) ?_
                 · skip
                   obtain ⟨e0, e1, e2, e3, e4⟩ := box5_cells hC2
                   have j0 := hC2.frozen 0
                   have j1 := hC2.frozen 1
                   have j2 := hC2.frozen 2
                   have j3 := hC2.frozen 3
                   have j4 := hC2.frozen 4
                   go_simp
                   refine hKq.out _ _ ?_ (fun hHeld => ?_)
                   · intro hl; exact absurd hl (by decide)
                   clear hKq Kq
                   try simp only [Act.put, List.getElem_toArray, List.getElem_cons_succ, List.getElem_cons_zero, List.setIfInBounds_toArray, List.set_cons_zero, List.set_cons_succ]
                   refine wpAnyJ_take0 (i := 28) (v := ?_) rfl (by kernel_rfl) (by kernel_rfl) (by kernel_rfl) (fun _ _ _ h => h) (by rfl) (Or.inl ⟨by rfl, ?_⟩) (by assumption) ?_
                   rotate_left 1
                   · intro w hSw; (try dsimp only at hSw); go_simp <;> (try with_reducible rfl)
                   try simp only [Act.put, List.getElem_toArray, List.getElem_cons_succ, List.getElem_cons_zero, List.setIfInBounds_toArray, List.set_cons_zero, List.set_cons_succ]
                   refine wpAnyJ_done (by kernel_rfl) ?_ _
                   clear e0 e1 e2 e3 e4 j0 j1 j2 j3 j4 hHeld
                   go_wp2_with fail
                   go_meet
                   exact cert_mid hC2 hg13 hP2 hG2 fP fG hb2
                 exact AllReadyJ.nil
               exact AllReadyJ.nil
             exact AllReadyJ.nil
           refine AllReadyJ.cons (o := _) rfl (fun Kq hKq => ?_) ?_
           · go_simp
             have hal := balloc X (.cells #[.slice none 0 0, .int .i64 0, .int .i64 0] 27)
             have hZ := Box.new X 27 [.slice none 0 0, .int .i64 0, .int .i64 0]
             change Box (X.alloc (.cells #[.slice none 0 0, .int .i64 0, .int .i64 0] 27)) _ _ _ at hZ
             have hg12 := hbC.out.size
             have hne := Nat.ne_of_gt hC.lt
             replace hC := hC.below hal
             replace hbC := Lib.hid (bgo hbC.out hal)
             clear hal
             generalize X.heap.size = g12 at hZ hg12 hne ⊢
             generalize X.alloc (.cells #[.slice none 0 0, .int .i64 0, .int .i64 0] 27) = X at *
             refine hKq.out _ _ ?_ (fun hHeld => ?_)
             · intro _; (try dsimp only); (first | exact K.out _ hbC.out | exact K.out _ (bdrew W2))
             clear hKq Kq
             try simp only [Act.put, List.getElem_toArray, List.getElem_cons_succ, List.getElem_cons_zero, List.setIfInBounds_toArray, List.set_cons_zero, List.set_cons_succ]
             refine wpAnyJ_ready (rs := [19]) (by kernel_rfl) (by simp) ?_
             refine AllReadyJ.cons (o := _) rfl (fun Kq hKq => ?_) ?_
             · go_simp
               go_at_call 50
               have hfz := hbC.out.size
               refine (hsg.out X hbC.out).mono ?_
               rintro e X ⟨vV, vP, vG, rfl, ⟨AV, mV, cV, rfl⟩, hP, hG, fP, fG, hal⟩
               obtain ⟨AP, cP, rfl, -, -⟩ := hP.mk_
               obtain ⟨AG, cG, rfl, -, -⟩ := hG.mk_
               replace hZ := hZ.below hal
               replace hC := hC.below hal
               replace hbC := Lib.hid (bgo hbC.out hal)
               replace fP := fP.mono hfz
               replace fG := fG.mono hfz
               clear hal hfz
               go_wp2_with fail
               refine hKq.out _ _ ?_ (fun hHeld => ?_)
               · intro _; (try dsimp only); (first | exact K.out _ hbC.out | exact K.out _ (bdrew W2))
               clear hKq Kq
               try simp only [Act.put, List.getElem_toArray, List.getElem_cons_succ, List.getElem_cons_zero, List.setIfInBounds_toArray, List.set_cons_zero, List.set_cons_succ]
               refine wpAnyJ_take0 (i := 20) (v := ?_) rfl (by kernel_rfl) (by kernel_rfl) (by kernel_rfl) (fun _ _ _ h => h) (by rfl) (Or.inl ⟨by rfl, ?_⟩) (by assumption) ?_
               rotate_left 1
               · intro w hSw; (try dsimp only at hSw); go_simp <;> (try with_reducible rfl)
               try simp only [Act.put, List.getElem_toArray, List.getElem_cons_succ, List.getElem_cons_zero, List.setIfInBounds_toArray, List.set_cons_zero, List.set_cons_succ]
               refine wpAnyJ_take0 (i := 21) (v := ?_) rfl (by kernel_rfl) (by kernel_rfl) (by kernel_rfl) (fun _ _ _ h => h) (by rfl) (Or.inl ⟨by rfl, ?_⟩) (by assumption) ?_
               rotate_left 1
               · intro w hSw; (try dsimp only at hSw); go_simp <;> (try with_reducible rfl)
               try simp only [Act.put, List.getElem_toArray, List.getElem_cons_succ, List.getElem_cons_zero, List.setIfInBounds_toArray, List.set_cons_zero, List.set_cons_succ]
               refine wpAnyJ_take0 (i := 22) (v := ?_) rfl (by kernel_rfl) (by kernel_rfl) (by kernel_rfl) (fun _ _ _ h => h) (by rfl) (Or.inl ⟨by rfl, ?_⟩) (by assumption) ?_
               rotate_left 1
               · intro w hSw; (try dsimp only at hSw); go_simp <;> (try with_reducible rfl)
               try simp only [Act.put, List.getElem_toArray, List.getElem_cons_succ, List.getElem_cons_zero, List.setIfInBounds_toArray, List.set_cons_zero, List.set_cons_succ]
               refine wpAnyJ_take0 (i := 23) (v := ?_) rfl (by kernel_rfl) (by kernel_rfl) (by kernel_rfl) (fun _ _ _ h => h) (by rfl) (Or.inl ⟨by rfl, ?_⟩) (by assumption) ?_
               rotate_left 1
               · intro w hSw; (try dsimp only at hSw); go_simp <;> (try with_reducible rfl)
               try simp only [Act.put, List.getElem_toArray, List.getElem_cons_succ, List.getElem_cons_zero, List.setIfInBounds_toArray, List.set_cons_zero, List.set_cons_succ]
               refine wpAnyJ_ready (rs := [26]) (by kernel_rfl) (by simp) ?_
               refine AllReadyJ.cons (o := _) rfl (fun Kq hKq => ?_) ?_
               · skip
                 obtain ⟨e0, e1, e2, j0, j1, j2⟩ := box3_cells hZ
                 go_simp
                 clear e0 e1 e2 j0 j1 j2
                 have hZ2 := lset3 hZ (.slice AV mV cV) (.int .i64 0) (.int .i64 1)
                 have hC2 := off3 hC hne (.slice AV mV cV) (.int .i64 0) (.int .i64 1)
                 have hP2 := sees_s3 hZ (noBL3' (NoB.s none 0 0) (NoB.i 0) (NoB.i 0)) (.slice AV mV cV) (.int .i64 0) (.int .i64 1) hP
                 have hG2 := sees_s3 hZ (noBL3' (NoB.s none 0 0) (NoB.i 0) (NoB.i 0)) (.slice AV mV cV) (.int .i64 0) (.int .i64 1) hG
                 have hb2 := ((hbC.out.setCell (p := ⟨g12, 0, none⟩) hg12 (.slice AV mV cV)).setCell (p := ⟨g12, 1, none⟩) hg12 (.int .i64 0)).setCell (p := ⟨g12, 2, none⟩) hg12 (.int .i64 1)
                 generalize ((X.setCell ⟨g12, 0, none⟩ (.slice AV mV cV)).setCell ⟨g12, 1, none⟩ (.int .i64 0)).setCell ⟨g12, 2, none⟩ (.int .i64 1) = Y at *
                 refine hKq.out _ _ ?_ (fun hHeld => ?_)
                 · intro hl; exact absurd hl (by decide)
                 clear hKq Kq
                 try simp only [Act.put, List.getElem_toArray, List.getElem_cons_succ, List.getElem_cons_zero, List.setIfInBounds_toArray, List.set_cons_zero, List.set_cons_succ]
                 refine wpAnyJ_ready (rs := [27]) (by kernel_rfl) (by simp) ?_
                 refine AllReadyJ.cons (o := _) rfl (fun Kq hKq => ?_) ?_
                 · skip
                   obtain ⟨e0, e1, e2, e3, e4⟩ := box5_cells hC2
                   have j0 := hC2.frozen 0
                   have j1 := hC2.frozen 1
                   have j2 := hC2.frozen 2
                   have j3 := hC2.frozen 3
                   have j4 := hC2.frozen 4
                   go_simp
                   refine hKq.out _ _ ?_ (fun hHeld => ?_)
                   · intro hl; exact absurd hl (by decide)
                   clear hKq Kq
                   try simp only [Act.put, List.getElem_toArray, List.getElem_cons_succ, List.getElem_cons_zero, List.setIfInBounds_toArray, List.set_cons_zero, List.set_cons_succ]
                   refine wpAnyJ_take0 (i := 28) (v := ?_) rfl (by kernel_rfl) (by kernel_rfl) (by kernel_rfl) (fun _ _ _ h => h) (by rfl) (Or.inl ⟨by rfl, ?_⟩) (by assumption) ?_
                   rotate_left 1
                   · intro w hSw; (try dsimp only at hSw); go_simp <;> (try with_reducible rfl)
                   try simp only [Act.put, List.getElem_toArray, List.getElem_cons_succ, List.getElem_cons_zero, List.setIfInBounds_toArray, List.set_cons_zero, List.set_cons_succ]
                   refine wpAnyJ_done (by kernel_rfl) ?_ _
                   clear e0 e1 e2 e3 e4 j0 j1 j2 j3 j4 hHeld
                   go_wp2_with fail
                   go_meet
                   exact cert_mid hC2 hg13 hP2 hG2 fP fG hb2
                 exact AllReadyJ.nil
               exact AllReadyJ.nil
             exact AllReadyJ.nil
           exact AllReadyJ.nil
         refine AllReadyJ.cons (o := _) rfl (fun Kq hKq => ?_) ?_
         · go_simp
           have hal := balloc X (.cells #[.slice none 0 0, .int .i64 0, .int .i64 0] 27)
           have hZ := Box.new X 27 [.slice none 0 0, .int .i64 0, .int .i64 0]
           change Box (X.alloc (.cells #[.slice none 0 0, .int .i64 0, .int .i64 0] 27)) _ _ _ at hZ
           have hg12 := hbC.out.size
           have hne := Nat.ne_of_gt hC.lt
           replace hB := hB.below hal
           replace hC := hC.below hal
           replace hbC := Lib.hid (bgo hbC.out hal)
           clear hal
           generalize X.heap.size = g12 at hZ hg12 hne ⊢
           generalize X.alloc (.cells #[.slice none 0 0, .int .i64 0, .int .i64 0] 27) = X at *
           refine hKq.out _ _ ?_ (fun hHeld => ?_)
           · intro _; (try dsimp only); (first | exact K.out _ hbC.out | exact K.out _ (bdrew W2))
           clear hKq Kq
           try simp only [Act.put, List.getElem_toArray, List.getElem_cons_succ, List.getElem_cons_zero, List.setIfInBounds_toArray, List.set_cons_zero, List.set_cons_succ]
           refine wpAnyJ_ready (rs := [5]) (by kernel_rfl) (by simp) ?_
           refine AllReadyJ.cons (o := _) rfl (fun Kq hKq => ?_) ?_
           · skip
             have hcv := hstr.out X gB (hB.cell 0)
             go_simp
             clear hB hcv
             refine hKq.out _ _ ?_ (fun hHeld => ?_)
             · intro _; (try dsimp only); (first | exact K.out _ hbC.out | exact K.out _ (bdrew W2))
             clear hKq Kq
             try simp only [Act.put, List.getElem_toArray, List.getElem_cons_succ, List.getElem_cons_zero, List.setIfInBounds_toArray, List.set_cons_zero, List.set_cons_succ]
             refine wpAnyJ_take0 (i := 6) (v := ?_) rfl (by kernel_rfl) (by kernel_rfl) (by kernel_rfl) (fun _ _ _ h => h) (by rfl) (Or.inl ⟨by rfl, ?_⟩) (by assumption) ?_
             rotate_left 1
             · intro w hSw; (try dsimp only at hSw); go_simp <;> (try with_reducible rfl)
             try simp only [Act.put, List.getElem_toArray, List.getElem_cons_succ, List.getElem_cons_zero, List.setIfInBounds_toArray, List.set_cons_zero, List.set_cons_succ]
             refine wpAnyJ_take0 (i := 18) (v := ?_) rfl (by kernel_rfl) (by kernel_rfl) (by kernel_rfl) (fun _ _ _ h => h) (by rfl) (Or.inl ⟨by rfl, ?_⟩) (by assumption) ?_
             rotate_left 1
             · intro w hSw; (try dsimp only at hSw); go_simp <;> (try with_reducible rfl)
             try simp only [Act.put, List.getElem_toArray, List.getElem_cons_succ, List.getElem_cons_zero, List.setIfInBounds_toArray, List.set_cons_zero, List.set_cons_succ]
             refine wpAnyJ_ready (rs := [19]) (by kernel_rfl) (by simp) ?_
             refine AllReadyJ.cons (o := _) rfl (fun Kq hKq => ?_) ?_
             · go_simp
               go_at_call 50
               have hfz := hbC.out.size
               refine (hsg.out X hbC.out).mono ?_
               rintro e X ⟨vV, vP, vG, rfl, ⟨AV, mV, cV, rfl⟩, hP, hG, fP, fG, hal⟩
               obtain ⟨AP, cP, rfl, -, -⟩ := hP.mk_
               obtain ⟨AG, cG, rfl, -, -⟩ := hG.mk_
               replace hZ := hZ.below hal
               replace hC := hC.below hal
               replace hbC := Lib.hid (bgo hbC.out hal)
               replace fP := fP.mono hfz
               replace fG := fG.mono hfz
               clear hal hfz
               go_wp2_with fail
               refine hKq.out _ _ ?_ (fun hHeld => ?_)
               · intro _; (try dsimp only); (first | exact K.out _ hbC.out | exact K.out _ (bdrew W2))
               clear hKq Kq
               try simp only [Act.put, List.getElem_toArray, List.getElem_cons_succ, List.getElem_cons_zero, List.setIfInBounds_toArray, List.set_cons_zero, List.set_cons_succ]
               refine wpAnyJ_take0 (i := 20) (v := ?_) rfl (by kernel_rfl) (by kernel_rfl) (by kernel_rfl) (fun _ _ _ h => h) (by rfl) (Or.inl ⟨by rfl, ?_⟩) (by assumption) ?_
               rotate_left 1
               · intro w hSw; (try dsimp only at hSw); go_simp <;> (try with_reducible rfl)
               try simp only [Act.put, List.getElem_toArray, List.getElem_cons_succ, List.getElem_cons_zero, List.setIfInBounds_toArray, List.set_cons_zero, List.set_cons_succ]
               refine wpAnyJ_take0 (i := 21) (v := ?_) rfl (by kernel_rfl) (by kernel_rfl) (by kernel_rfl) (fun _ _ _ h => h) (by rfl) (Or.inl ⟨by rfl, ?_⟩) (by assumption) ?_
               rotate_left 1
               · intro w hSw; (try dsimp only at hSw); go_simp <;> (try with_reducible rfl)
               try simp only [Act.put, List.getElem_toArray, List.getElem_cons_succ, List.getElem_cons_zero, List.setIfInBounds_toArray, List.set_cons_zero, List.set_cons_succ]
               refine wpAnyJ_take0 (i := 22) (v := ?_) rfl (by kernel_rfl) (by kernel_rfl) (by kernel_rfl) (fun _ _ _ h => h) (by rfl) (Or.inl ⟨by rfl, ?_⟩) (by assumption) ?_
               rotate_left 1
               · intro w hSw; (try dsimp only at hSw); go_simp <;> (try with_reducible rfl)
               try simp only [Act.put, List.getElem_toArray, List.getElem_cons_succ, List.getElem_cons_zero, List.setIfInBounds_toArray, List.set_cons_zero, List.set_cons_succ]
               refine wpAnyJ_take0 (i := 23) (v := ?_) rfl (by kernel_rfl) (by kernel_rfl) (by kernel_rfl) (fun _ _ _ h => h) (by rfl) (Or.inl ⟨by rfl, ?_⟩) (by assumption) ?_
               rotate_left 1
               · intro w hSw; (try dsimp only at hSw); go_simp <;> (try with_reducible rfl)
               try simp only [Act.put, List.getElem_toArray, List.getElem_cons_succ, List.getElem_cons_zero, List.setIfInBounds_toArray, List.set_cons_zero, List.set_cons_succ]
               refine wpAnyJ_ready (rs := [26]) (by kernel_rfl) (by simp) ?_
               refine AllReadyJ.cons (o := _) rfl (fun Kq hKq => ?_) ?_
               · skip
                 obtain ⟨e0, e1, e2, j0, j1, j2⟩ := box3_cells hZ
                 go_simp
                 clear e0 e1 e2 j0 j1 j2
                 have hZ2 := lset3 hZ (.slice AV mV cV) (.int .i64 0) (.int .i64 1)
                 have hC2 := off3 hC hne (.slice AV mV cV) (.int .i64 0) (.int .i64 1)
                 have hP2 := sees_s3 hZ (noBL3' (NoB.s none 0 0) (NoB.i 0) (NoB.i 0)) (.slice AV mV cV) (.int .i64 0) (.int .i64 1) hP
                 have hG2 := sees_s3 hZ (noBL3' (NoB.s none 0 0) (NoB.i 0) (NoB.i 0)) (.slice AV mV cV) (.int .i64 0) (.int .i64 1) hG
                 have hb2 := ((hbC.out.setCell (p := ⟨g12, 0, none⟩) hg12 (.slice AV mV cV)).setCell (p := ⟨g12, 1, none⟩) hg12 (.int .i64 0)).setCell (p := ⟨g12, 2, none⟩) hg12 (.int .i64 1)
                 generalize ((X.setCell ⟨g12, 0, none⟩ (.slice AV mV cV)).setCell ⟨g12, 1, none⟩ (.int .i64 0)).setCell ⟨g12, 2, none⟩ (.int .i64 1) = Y at *
                 refine hKq.out _ _ ?_ (fun hHeld => ?_)
                 · intro hl; exact absurd hl (by decide)
                 clear hKq Kq
                 try simp only [Act.put, List.getElem_toArray, List.getElem_cons_succ, List.getElem_cons_zero, List.setIfInBounds_toArray, List.set_cons_zero, List.set_cons_succ]
                 refine wpAnyJ_ready (rs := [27]) (by kernel_rfl) (by simp) ?_
                 refine AllReadyJ.cons (o := _) rfl (fun Kq hKq => ?_) ?_
                 · skip
                   obtain ⟨e0, e1, e2, e3, e4⟩ := box5_cells hC2
                   have j0 := hC2.frozen 0
                   have j1 := hC2.frozen 1
                   have j2 := hC2.frozen 2
                   have j3 := hC2.frozen 3
                   have j4 := hC2.frozen 4
                   go_simp
                   refine hKq.out _ _ ?_ (fun hHeld => ?_)
                   · intro hl; exact absurd hl (by decide)
                   clear hKq Kq
                   try simp only [Act.put, List.getElem_toArray, List.getElem_cons_succ, List.getElem_cons_zero, List.setIfInBounds_toArray, List.set_cons_zero, List.set_cons_succ]
                   refine wpAnyJ_take0 (i := 28) (v := ?_) rfl (by kernel_rfl) (by kernel_rfl) (by kernel_rfl) (fun _ _ _ h => h) (by rfl) (Or.inl ⟨by rfl, ?_⟩) (by assumption) ?_
                   rotate_left 1
                   · intro w hSw; (try dsimp only at hSw); go_simp <;> (try with_reducible rfl)
                   try simp only [Act.put, List.getElem_toArray, List.getElem_cons_succ, List.getElem_cons_zero, List.setIfInBounds_toArray, List.set_cons_zero, List.set_cons_succ]
                   refine wpAnyJ_done (by kernel_rfl) ?_ _
                   clear e0 e1 e2 e3 e4 j0 j1 j2 j3 j4 hHeld
                   go_wp2_with fail
                   go_meet
                   exact cert_mid hC2 hg13 hP2 hG2 fP fG hb2
                 exact AllReadyJ.nil
               exact AllReadyJ.nil
             exact AllReadyJ.nil
           exact AllReadyJ.nil
         exact AllReadyJ.nil
       refine AllReadyJ.cons (o := _) rfl (fun Kq hKq => ?_) ?_
       · go_simp
         have hal := balloc X (.cells #[.slice none 0 0, .int .i64 0, .int .i64 0] 27)
         have hZ := Box.new X 27 [.slice none 0 0, .int .i64 0, .int .i64 0]
         change Box (X.alloc (.cells #[.slice none 0 0, .int .i64 0, .int .i64 0] 27)) _ _ _ at hZ
         have hg12 := hbC.out.size
         have hne := Nat.ne_of_gt hC.lt
         replace hC := hC.below hal
         replace hbC := Lib.hid (bgo hbC.out hal)
         clear hal
         generalize X.heap.size = g12 at hZ hg12 hne ⊢
         generalize X.alloc (.cells #[.slice none 0 0, .int .i64 0, .int .i64 0] 27) = X at *
         refine hKq.out _ _ ?_ (fun hHeld => ?_)
         · intro _; (try dsimp only); (first | exact K.out _ hbC.out | exact K.out _ (bdrew W2))
         clear hKq Kq
         try simp only [Act.put, List.getElem_toArray, List.getElem_cons_succ, List.getElem_cons_zero, List.setIfInBounds_toArray, List.set_cons_zero, List.set_cons_succ]
         refine wpAnyJ_ready (rs := [4]) (by kernel_rfl) (by simp) ?_
         refine AllReadyJ.cons (o := _) rfl (fun Kq hKq => ?_) ?_
         · go_simp
           have hal := balloc X (.cells #[.int .u8 (48 + (i : Int))] 5)
           have hB := Box.new X 5 [.int .u8 (48 + (i : Int))]
           change Box (X.alloc (.cells #[.int .u8 (48 + (i : Int))] 5)) _ _ _ at hB
           replace hZ := hZ.below hal
           replace hC := hC.below hal
           replace hbC := Lib.hid (bgo hbC.out hal)
           clear hal
           generalize X.heap.size = gB at hB ⊢
           generalize X.alloc (.cells #[.int .u8 (48 + (i : Int))] 5) = X at *
           refine hKq.out _ _ ?_ (fun hHeld => ?_)
           · intro _; (try dsimp only); (first | exact K.out _ hbC.out | exact K.out _ (bdrew W2))
           clear hKq Kq
           try simp only [Act.put, List.getElem_toArray, List.getElem_cons_succ, List.getElem_cons_zero, List.setIfInBounds_toArray, List.set_cons_zero, List.set_cons_succ]
           refine wpAnyJ_ready (rs := [5]) (by kernel_rfl) (by simp) ?_
           refine AllReadyJ.cons (o := _) rfl (fun Kq hKq => ?_) ?_
           · skip
             have hcv := hstr.out X gB (hB.cell 0)
             go_simp
             clear hB hcv
             refine hKq.out _ _ ?_ (fun hHeld => ?_)
             · intro _; (try dsimp only); (first | exact K.out _ hbC.out | exact K.out _ (bdrew W2))
             clear hKq Kq
             try simp only [Act.put, List.getElem_toArray, List.getElem_cons_succ, List.getElem_cons_zero, List.setIfInBounds_toArray, List.set_cons_zero, List.set_cons_succ]
             refine wpAnyJ_take0 (i := 6) (v := ?_) rfl (by kernel_rfl) (by kernel_rfl) (by kernel_rfl) (fun _ _ _ h => h) (by rfl) (Or.inl ⟨by rfl, ?_⟩) (by assumption) ?_
             rotate_left 1
             · intro w hSw; (try dsimp only at hSw); go_simp <;> (try with_reducible rfl)
             try simp only [Act.put, List.getElem_toArray, List.getElem_cons_succ, List.getElem_cons_zero, List.setIfInBounds_toArray, List.set_cons_zero, List.set_cons_succ]
             refine wpAnyJ_take0 (i := 18) (v := ?_) rfl (by kernel_rfl) (by kernel_rfl) (by kernel_rfl) (fun _ _ _ h => h) (by rfl) (Or.inl ⟨by rfl, ?_⟩) (by assumption) ?_
             rotate_left 1
             · intro w hSw; (try dsimp only at hSw); go_simp <;> (try with_reducible rfl)
             try simp only [Act.put, List.getElem_toArray, List.getElem_cons_succ, List.getElem_cons_zero, List.setIfInBounds_toArray, List.set_cons_zero, List.set_cons_succ]
             refine wpAnyJ_ready (rs := [19]) (by kernel_rfl) (by simp) ?_
             refine AllReadyJ.cons (o := _) rfl (fun Kq hKq => ?_) ?_
             · go_simp
               go_at_call 50
               have hfz := hbC.out.size
               refine (hsg.out X hbC.out).mono ?_
               rintro e X ⟨vV, vP, vG, rfl, ⟨AV, mV, cV, rfl⟩, hP, hG, fP, fG, hal⟩
               obtain ⟨AP, cP, rfl, -, -⟩ := hP.mk_
               obtain ⟨AG, cG, rfl, -, -⟩ := hG.mk_
               replace hZ := hZ.below hal
               replace hC := hC.below hal
               replace hbC := Lib.hid (bgo hbC.out hal)
               replace fP := fP.mono hfz
               replace fG := fG.mono hfz
               clear hal hfz
               go_wp2_with fail
               refine hKq.out _ _ ?_ (fun hHeld => ?_)
               · intro _; (try dsimp only); (first | exact K.out _ hbC.out | exact K.out _ (bdrew W2))
               clear hKq Kq
               try simp only [Act.put, List.getElem_toArray, List.getElem_cons_succ, List.getElem_cons_zero, List.setIfInBounds_toArray, List.set_cons_zero, List.set_cons_succ]
               refine wpAnyJ_take0 (i := 20) (v := ?_) rfl (by kernel_rfl) (by kernel_rfl) (by kernel_rfl) (fun _ _ _ h => h) (by rfl) (Or.inl ⟨by rfl, ?_⟩) (by assumption) ?_
               rotate_left 1
               · intro w hSw; (try dsimp only at hSw); go_simp <;> (try with_reducible rfl)
               try simp only [Act.put, List.getElem_toArray, List.getElem_cons_succ, List.getElem_cons_zero, List.setIfInBounds_toArray, List.set_cons_zero, List.set_cons_succ]
               refine wpAnyJ_take0 (i := 21) (v := ?_) rfl (by kernel_rfl) (by kernel_rfl) (by kernel_rfl) (fun _ _ _ h => h) (by rfl) (Or.inl ⟨by rfl, ?_⟩) (by assumption) ?_
               rotate_left 1
               · intro w hSw; (try dsimp only at hSw); go_simp <;> (try with_reducible rfl)
               try simp only [Act.put, List.getElem_toArray, List.getElem_cons_succ, List.getElem_cons_zero, List.setIfInBounds_toArray, List.set_cons_zero, List.set_cons_succ]
               refine wpAnyJ_take0 (i := 22) (v := ?_) rfl (by kernel_rfl) (by kernel_rfl) (by kernel_rfl) (fun _ _ _ h => h) (by rfl) (Or.inl ⟨by rfl, ?_⟩) (by assumption) ?_
               rotate_left 1
               · intro w hSw; (try dsimp only at hSw); go_simp <;> (try with_reducible rfl)
               try simp only [Act.put, List.getElem_toArray, List.getElem_cons_succ, List.getElem_cons_zero, List.setIfInBounds_toArray, List.set_cons_zero, List.set_cons_succ]
               refine wpAnyJ_take0 (i := 23) (v := ?_) rfl (by kernel_rfl) (by kernel_rfl) (by kernel_rfl) (fun _ _ _ h => h) (by rfl) (Or.inl ⟨by rfl, ?_⟩) (by assumption) ?_
               rotate_left 1
               · intro w hSw; (try dsimp only at hSw); go_simp <;> (try with_reducible rfl)
               try simp only [Act.put, List.getElem_toArray, List.getElem_cons_succ, List.getElem_cons_zero, List.setIfInBounds_toArray, List.set_cons_zero, List.set_cons_succ]
               refine wpAnyJ_ready (rs := [26]) (by kernel_rfl) (by simp) ?_
               refine AllReadyJ.cons (o := _) rfl (fun Kq hKq => ?_) ?_
               · skip
                 obtain ⟨e0, e1, e2, j0, j1, j2⟩ := box3_cells hZ
                 go_simp
                 clear e0 e1 e2 j0 j1 j2
                 have hZ2 := lset3 hZ (.slice AV mV cV) (.int .i64 0) (.int .i64 1)
                 have hC2 := off3 hC hne (.slice AV mV cV) (.int .i64 0) (.int .i64 1)
                 have hP2 := sees_s3 hZ (noBL3' (NoB.s none 0 0) (NoB.i 0) (NoB.i 0)) (.slice AV mV cV) (.int .i64 0) (.int .i64 1) hP
                 have hG2 := sees_s3 hZ (noBL3' (NoB.s none 0 0) (NoB.i 0) (NoB.i 0)) (.slice AV mV cV) (.int .i64 0) (.int .i64 1) hG
                 have hb2 := ((hbC.out.setCell (p := ⟨g12, 0, none⟩) hg12 (.slice AV mV cV)).setCell (p := ⟨g12, 1, none⟩) hg12 (.int .i64 0)).setCell (p := ⟨g12, 2, none⟩) hg12 (.int .i64 1)
                 generalize ((X.setCell ⟨g12, 0, none⟩ (.slice AV mV cV)).setCell ⟨g12, 1, none⟩ (.int .i64 0)).setCell ⟨g12, 2, none⟩ (.int .i64 1) = Y at *
                 refine hKq.out _ _ ?_ (fun hHeld => ?_)
                 · intro hl; exact absurd hl (by decide)
                 clear hKq Kq
                 try simp only [Act.put, List.getElem_toArray, List.getElem_cons_succ, List.getElem_cons_zero, List.setIfInBounds_toArray, List.set_cons_zero, List.set_cons_succ]
                 refine wpAnyJ_ready (rs := [27]) (by kernel_rfl) (by simp) ?_
                 refine AllReadyJ.cons (o := _) rfl (fun Kq hKq => ?_) ?_
                 · skip
                   obtain ⟨e0, e1, e2, e3, e4⟩ := box5_cells hC2
                   have j0 := hC2.frozen 0
                   have j1 := hC2.frozen 1
                   have j2 := hC2.frozen 2
                   have j3 := hC2.frozen 3
                   have j4 := hC2.frozen 4
                   go_simp
                   refine hKq.out _ _ ?_ (fun hHeld => ?_)
                   · intro hl; exact absurd hl (by decide)
                   clear hKq Kq
                   try simp only [Act.put, List.getElem_toArray, List.getElem_cons_succ, List.getElem_cons_zero, List.setIfInBounds_toArray, List.set_cons_zero, List.set_cons_succ]
                   refine wpAnyJ_take0 (i := 28) (v := ?_) rfl (by kernel_rfl) (by kernel_rfl) (by kernel_rfl) (fun _ _ _ h => h) (by rfl) (Or.inl ⟨by rfl, ?_⟩) (by assumption) ?_
                   rotate_left 1
                   · intro w hSw; (try dsimp only at hSw); go_simp <;> (try with_reducible rfl)
                   try simp only [Act.put, List.getElem_toArray, List.getElem_cons_succ, List.getElem_cons_zero, List.setIfInBounds_toArray, List.set_cons_zero, List.set_cons_succ]
                   refine wpAnyJ_done (by kernel_rfl) ?_ _
                   clear e0 e1 e2 e3 e4 j0 j1 j2 j3 j4 hHeld
                   go_wp2_with fail
                   go_meet
                   exact cert_mid hC2 hg13 hP2 hG2 fP fG hb2
                 exact AllReadyJ.nil
               exact AllReadyJ.nil
             exact AllReadyJ.nil
           exact AllReadyJ.nil
         exact AllReadyJ.nil
       exact AllReadyJ.nil
     exact AllReadyJ.nil
    case rest =>
     obtain ⟨g13, AP, cP, AG, cG, rfl, rfl, b13, tP, tG, fP, fG, hb3⟩ := hcut
     obtain ⟨W3, rfl⟩ : ∃ W3 : World, W3 = wc := ⟨_, rfl⟩
     have hal4 := balloc W3 (.cells #[.string S2, .slice AP pk.length cP, .int .i64 lo, .int .i64 hi', .slice AG SG.length cG] 70)
     have hrec : Hid (Sees (W3.alloc (.cells #[.string S2, .slice AP pk.length cP, .int .i64 lo, .int .i64 hi', .slice AG SG.length cG] 70)) (W3.heap.size + 1) (.slice (some ⟨W3.heap.size, 0, none⟩) 1 1) 5 1 [.string S2, .slice AP pk.length cP, .int .i64 lo, .int .i64 hi', .slice AG SG.length cG]) := rec_lit W3 70 [.string S2, .slice AP pk.length cP, .int .i64 lo, .int .i64 hi', .slice AG SG.length cG]
     have hb34 := bgo hb3 hal4
     have ho4 := Lib.hid (ho2.out.below hb34)
     have hol : ∀ j, (Value.slice Ao i co).ownBlock = some j → j < W2.heap.size := fun j hj => (ho2.out.own.lt j hj).2
     have hel := Lib.hid (cert_elts (w := W3.alloc (.cells #[.string S2, .slice AP pk.length cP, .int .i64 lo, .int .i64 hi', .slice AG SG.length cG] 70)) (v := .slice Ao i co) (nm := nameC i) (f := lo) (t := hi') (base := g6 + 1) (seesB_of tP (Nat.le_refl _) hal4) (seesB_of tG (Nat.le_refl _) hal4) fP fG hol hz2.out)
     rw [hS2.out] at hel
     have x64 := Lib.hid (x62.out.below hb34)
     have x104 := Lib.hid (x10.out.below hb34)
     have q14 := Lib.hid (seesB_of q1.out (Nat.le_refl _) hb34)
     have hr24 := Lib.hid (SeesB.below hr22.out (hb34.mono (Nat.le_of_succ_le hz2.out)))
     have hbw4 := Lib.hid (bgo hbw2.out hb34)
     have hz4 := Lib.hid (Nat.le_trans hz2.out hb34.size)
     obtain ⟨e0, e1, e2, e3, e4⟩ := box5_cells b13
     clear hb34 hal4 tP tG fP fG hb3 hol hsg K hbC
     go_wp2_with (at_builtin; refine wpList_appRFG (by rfl) _ _ 64 70 Tryz.underlying64 rfl ti _ 5 80 hti.out htz.out hts.out htb.out rfl (by omega) (by omega) (g6 + 1) _ i _ rfl ho4.out _ _ 1 _ (certS ((nameC i, pk, lo, hi', SG) :: [])) rfl hrec.out rfl hel.out (by omega) hz4.out ?_)
     intro v5 W5 ho5 hb5 hgr5
     obtain ⟨Bo, d, rfl, -, -⟩ := ho5.own.sees.mk_
     have x65 : Box W5 g6 27 [.slice A6 32 c6, .int .i64 0, .int .i64 0] := (hb5.block g6 (Nat.lt_succ_self _)).trans x64.out
     have x105 : Box W5 g10 27 [.slice A3 32 c3, .int .i64 0, .int .i64 0] := (hgr5.block g10 x104.out.lt (fun e => by have h1 := hol10.out g10 e.symm; have h2 : wr.heap.size ≤ g10 := hwr10.out; omega)).trans x104.out
     have q15 := sees_grown_far q14.out f3.out hgr5 hol10.out
     have hr25 := SeesB.below hr24.out (hb5.mono (Nat.le_succ _))
     have hbw5 := hbw4.out.trans (hb5.mono (show w.heap.size ≤ g6 + 1 by have := hg6.out; omega))
     have hz5 := Nat.le_trans hz4.out hb5.size
     have ho6 : Hid (OwnRF (((W5.setCell ⟨g6, 0, none⟩ (.slice A3 32 c3)).setCell ⟨g6, 1, none⟩ (.int .i64 0)).setCell ⟨g6, 2, none⟩ (.int .i64 0)) (g6 + 1) 70 (.slice Bo (i + 1) d) 5 (i + 1) (certS (honL v ws (i + 1)))) := by
      show OwnRF _ _ _ _ _ _ _
      rw [hnx.out, certS_append]
      exact ((ho5.far (Nat.lt_succ_self _)).far (Nat.lt_succ_self _)).far (Nat.lt_succ_self _)
     have x66 := lset3 x65 (.slice A3 32 c3) (.int .i64 0) (.int .i64 0)
     have q16 := sees_s3 x65 (noBL3' (NoB.s A6 32 c6) (NoB.i 0) (NoB.i 0)) (.slice A3 32 c3) (.int .i64 0) (.int .i64 0) q15
     have hs66 : Hid (∃ A6 c6, Box (((W5.setCell ⟨g6, 0, none⟩ (.slice A3 32 c3)).setCell ⟨g6, 1, none⟩ (.int .i64 0)).setCell ⟨g6, 2, none⟩ (.int .i64 0)) g6 27 [.slice A6 32 c6, .int .i64 0, .int .i64 0] ∧ SeesB (((W5.setCell ⟨g6, 0, none⟩ (.slice A3 32 c3)).setCell ⟨g6, 1, none⟩ (.int .i64 0)).setCell ⟨g6, 2, none⟩ (.int .i64 0)) (((W5.setCell ⟨g6, 0, none⟩ (.slice A3 32 c3)).setCell ⟨g6, 1, none⟩ (.int .i64 0)).setCell ⟨g6, 2, none⟩ (.int .i64 0)).heap.size (.slice A6 32 c6) (seedC v (i + 1))) := ⟨A3, c3, x66, q16⟩
     have hr26 := Lib.hid (SeesB.below hr25 ((((Below.refl g6 W5).setCell (p := ⟨g6, 0, none⟩) (Nat.le_refl _) (.slice A3 32 c3)).setCell (p := ⟨g6, 1, none⟩) (Nat.le_refl _) (.int .i64 0)).setCell (p := ⟨g6, 2, none⟩) (Nat.le_refl _) (.int .i64 0)))
     have hbw6 := Lib.hid (((hbw5.setCell (p := ⟨g6, 0, none⟩) hg6.out (.slice A3 32 c3)).setCell (p := ⟨g6, 1, none⟩) hg6.out (.int .i64 0)).setCell (p := ⟨g6, 2, none⟩) hg6.out (.int .i64 0))
     have hz6 : Hid (g6 + 1 ≤ (((W5.setCell ⟨g6, 0, none⟩ (.slice A3 32 c3)).setCell ⟨g6, 1, none⟩ (.int .i64 0)).setCell ⟨g6, 2, none⟩ (.int .i64 0)).heap.size) := by show _ ≤ _; simpa [World.setCell] using hz5
     obtain ⟨y0, y1, y2, f0, f1, f2'⟩ := box3_cells x65
     obtain ⟨t0, t1, t2, -, -, -⟩ := box3_cells x105
     clear ho5 hb5 hgr5 x65 x105 q15 hr25 hbw5 hz5 x66 q16 e0 e1 e2 e3 e4 b13
     go_wp2_with fail
     go_roundw
     case rel => exact ⟨i + 1, by omega, by go_num, ho6, hs66, hr26, hbw6, hz6⟩
     case measure => simp [intOf]; omega
  · obtain rfl : i = ws.length := by omega
    have i0 : ¬ (ws.length : Int) < (ws.length : Int) := by omega
    go_wp2_with fail
    go_returns
    exact ⟨_, _, g6 + 1, rfl, ho.out, SeesB.more hr2.out (Nat.le_succ _), f2.out, hb.out, (show w.heap.size ≤ g6 + 1 by have := hg6.out; omega), hz.out⟩
end Go.Proofs.YtjgepckncogdaaaGreat

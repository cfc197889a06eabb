/- The walk of the statement TopKeysAndHashes: true. No conditions. -/
import Derived.Test.YtpdphpekgphniaaTKS
import Derived.Test.YtpdphpekgphniaaTKK
import Derived.Test.YtpdphpekgphniaaHeldJ
import Derived.Deep.CutBlock
namespace Go.Proofs.Ytpdphpekgphniaa
open Go Go.RowKit
set_option linter.unusedVariables false
set_option linter.unusedSimpArgs false
attribute [local go_sem ↓] Go.wp_at_zero Go.wp_at_succ
theorem bytesW_len (seed : Int) (n : Nat) : (bytesW seed n).length = n := by
  unfold bytesW
  rw [List.length_take, rowsW_len]
  omega
/-- A key of a block. -/
def padZ (key : Bs) : Bs := key ++ List.replicate (64 - key.length) 0
/-- The first k bytes combined, the others not yet written. -/
def mixL (m : Int) (k : Nat) (P : Bs) : Bs := ((P.take k).map fun z => xorM z m) ++ List.replicate (64 - k) 0
theorem padZ_len (key : Bs) (h : key.length ≤ 64) : (padZ key).length = 64 := by unfold padZ; rw [List.length_append, List.length_replicate]; omega
theorem padZ_in (key : Bs) (k : Nat) (h : k < key.length) : (padZ key).getD k 0 = key.getD k 0 := by
  unfold padZ
  rw [List.getD_eq_getElem?_getD, List.getElem?_append_left h, List.getD_eq_getElem?_getD]
theorem padZ_out (key : Bs) (k : Nat) (h : key.length ≤ k) : (padZ key).getD k 0 = 0 := by
  unfold padZ
  rw [List.getD_eq_getElem?_getD, List.getElem?_append_right h, List.getElem?_replicate]
  split <;> rfl
theorem mixL_len (m : Int) (k : Nat) (P : Bs) (hP : P.length = 64) (hk : k ≤ 64) : (mixL m k P).length = 64 := by
  unfold mixL; rw [List.length_append, List.length_map, List.length_take, List.length_replicate]; omega
theorem mixL_get (m : Int) (k : Nat) (P : Bs) (hP : P.length = 64) (hk : k < 64) : (mixL m k P)[k]? = some 0 := by
  have hl : ((P.take k).map fun z => xorM z m).length = k := by rw [List.length_map, List.length_take]; omega
  unfold mixL
  rw [List.getElem?_append_right (by omega), hl, Nat.sub_self, List.getElem?_replicate, if_pos (by omega)]
theorem mixL_set (m : Int) (k : Nat) (P : Bs) (hP : P.length = 64) (hk : k < 64) : (mixL m k P).set k (xorM (P.getD k 0) m) = mixL m (k + 1) P := by
  have hl : ((P.take k).map fun z => xorM z m).length = k := by rw [List.length_map, List.length_take]; omega
  have hk2 : k < P.length := by omega
  unfold mixL
  rw [List.set_append_right _ _ (by omega), hl, Nat.sub_self, show 64 - k = (64 - (k + 1)) + 1 by omega, List.replicate_succ, List.set_cons_zero, List.take_succ_eq_append_getElem hk2, List.map_append, List.append_assoc]
  have e : P.getD k 0 = P[k] := by rw [List.getD_eq_getElem?_getD, List.getElem?_eq_getElem hk2]; rfl
  rw [e]
  rfl
theorem mixL_all (m : Int) (key : Bs) (h : key.length ≤ 64) : mixL m 64 (padZ key) = maskG key m := by
  unfold mixL maskG
  rw [List.take_of_length_le (by rw [padZ_len key h]; omega), Nat.sub_self, List.replicate_zero, List.append_nil]
  rfl
/-- Two rows of 64 bytes. -/
def RowsK (B : Nat) (a b : Bs) (v8 v9 : Value) (W : World) : Prop :=
  ∃ g1 g2, v8 = .slice (some ⟨g1, 0, none⟩) 64 64 ∧ v9 = .slice (some ⟨g2, 0, none⟩) 64 64 ∧ g1 ≠ g2 ∧ B ≤ g1 ∧ B ≤ g2 ∧ Box W g1 5 (vb a) ∧ Box W g2 5 (vb b)
theorem absorb_drop (s : St) (a : Bs) (n m : Nat) : absorb (absorb s a n) (a.drop (64 * n)) m = absorb s a (n + m) := by
  induction m with
  | zero => rfl
  | succ m ih => rw [← Nat.add_assoc, absorb, absorb, ih, List.drop_drop, show 64 * n + 64 * m = 64 * (n + m) from by omega]
theorem absorb_append (s : St) (a b : Bs) (n : Nat) (h : 64 * n ≤ a.length) : absorb s (a ++ b) n = absorb s a n := by
  induction n with
  | zero => rfl
  | succ n ih =>
    rw [absorb, absorb, ih (by omega), List.drop_append_of_le_length (by omega), List.take_append_of_le_length (by rw [List.length_drop]; omega)]
/-- A hash in steps over a whole block and what follows. -/
theorem steps_sum (M info s1 : _) (r1 : Bs) (h : (M : Bs).length = 64) (hs : s1 = absorb st0 ([] ++ M) (([] ++ M : Bs).length / 64)) (hr : r1 = ([] ++ M : Bs).drop (64 * (([] ++ M : Bs).length / 64))) :
    finish (absorb s1 (r1 ++ info) ((r1 ++ info).length / 64)) ((r1 ++ info).drop (64 * ((r1 ++ info).length / 64))) (0 + M.length + info.length) = sha (M ++ info) := by
  have e1 : r1 = [] := by rw [hr, List.nil_append, h, List.drop_of_length_le (by omega)]
  have e2 : s1 = absorb st0 M 1 := by rw [hs, List.nil_append, h]
  rw [e1, e2, List.nil_append, h]
  unfold sha
  have e3 : (M ++ info).length = 64 + info.length := by rw [List.length_append, h]
  rw [e3, show (64 + info.length) / 64 = 1 + info.length / 64 by omega, ← absorb_drop, absorb_append _ _ _ _ (by omega), show 64 * (1 + info.length / 64) = 64 + 64 * (info.length / 64) by omega, ← List.drop_drop, show 64 * 1 = 64 from rfl]
  have e4 : (M ++ info).drop 64 = info := by rw [← h]; exact List.drop_left
  rw [e4, Nat.zero_add]
theorem rsame_self (B B' : Nat) (u v : Value) (a b : Bs) (w : World) (hu : SeesB w B u a) (hv : SeesB w B' v b) (e : a = b) :
    Calls Try.prog 14 #[u, v] w fun e w' => e = .returned (.bool true) ∧ w' = w := by
  subst e
  refine (rsame_any B B' u v a a w hu hv).mono ?_
  rintro e w' ⟨rfl, rfl⟩
  exact ⟨by rw [beq_self_eq_true], rfl⟩
/-- Join of a list that is written out. -/
theorem rjoin_lit0 {vs : List Value} (ls : List Bs) (W : World) (h : SeesAll W W.heap.size vs ls) (hm : vs.length ≤ 16) (hl : ls.flatten.length ≤ 1099511627776) :
    Calls Try.prog 13 #[.slice (some ⟨W.heap.size, 0, none⟩) vs.length vs.length] (W.alloc (.cells vs.toArray 22)) fun e w' => ∃ v, e = .returned v ∧ SeesB w' w'.heap.size v ls.flatten ∧ Below W.heap.size W w' :=
  (rjoin_any _ _ ls _ (seesL_lit W 22 h (by unfold maxLen; omega)) (Nat.le_refl _) hl).mono fun _ _ ⟨v, h1, h2, h3⟩ => ⟨v, h1, h2.sees, bgo (balloc W _) h3⟩
theorem noByteH (a b : Option Addr) (n1 c1 n2 c2 : Nat) (k : Int) : NoByte [.slice a n1 c1, .slice b n2 c2, .int .i64 k] := by
  intro x hx n e
  simp only [List.mem_cons, List.not_mem_nil, or_false] at hx
  rcases hx with rfl | rfl | rfl <;> cases e
theorem HashV.poke3 {w : World} {p : Nat} {v : Value} {s : St} {rest : Bs} {count : Nat} {a b a' b' : Option Addr} {n1 c1 n2 c2 n1' c1' n2' c2' : Nat} {k k' : Int} (h : HashV w v s rest count) (hx : Box w p 28 [.slice a n1 c1, .slice b n2 c2, .int .i64 k]) :
    HashV (((w.setCell ⟨p, 0, none⟩ (.slice a' n1' c1')).setCell ⟨p, 1, none⟩ (.slice b' n2' c2')).setCell ⟨p, 2, none⟩ (.int .i64 k')) v s rest count := by
  obtain ⟨g, A, c, h1, h2, h3, h4⟩ := h
  have hne : g ≠ p := by
    intro e
    subst e
    have e1 : w.heap[g]? = some (.cells (stCells s).toArray 60) := h2
    have e2 : w.heap[g]? = some (.cells [.slice a n1 c1, .slice b n2 c2, .int .i64 k].toArray 28) := hx
    rw [e1] at e2
    simp [stCells] at e2
  have k1 := h3.poke (j := 0) (v' := .slice a' n1' c1') hx (noByteH _ _ _ _ _ _ _)
  have hx1 := hx.set 0 (.slice a' n1' c1')
  simp only [List.set_cons_succ, List.set_cons_zero] at hx1
  have k2 := k1.poke (j := 1) (v' := .slice b' n2' c2') hx1 (noByteH _ _ _ _ _ _ _)
  have hx2 := hx1.set 1 (.slice b' n2' c2')
  simp only [List.set_cons_succ, List.set_cons_zero] at hx2
  have k3 := k2.poke (j := 2) (v' := .int .i64 k') hx2 (noByteH _ _ _ _ _ _ _)
  exact ⟨g, A, c, h1, ((h2.other hne).other hne).other hne, k3.more (by simp [World.setCell]), h4⟩
theorem out_take (key info : Bs) : (outK key info 2).take 32 = macG key (info ++ [1]) := by
  have e : outK key info 2 = macG key (info ++ [1]) ++ lastK key info 2 := rfl
  rw [e, List.take_left' (show (macG key (info ++ [1])).length = 32 from sha_len _)]
theorem out_drop (key info : Bs) : (outK key info 2).drop 32 = macG key (macG key (info ++ [1]) ++ info ++ [2]) := by
  have e : outK key info 2 = macG key (info ++ [1]) ++ macG key (macG key (info ++ [1]) ++ info ++ [2]) := rfl
  rw [e, List.drop_left' (show (macG key (info ++ [1])).length = 32 from sha_len _)]
set_option maxRecDepth 100000 in
set_option maxHeartbeats 4000000 in
theorem tk_law (B : Nat) (u : Value) (seed n : Int) (info : Bs) (w : World) (hu : SeesB w B u info) (hB : B ≤ w.heap.size) :
    Calls Try.prog 3 #[.int .i64 seed, .int .i64 n, u] w (BoolPost true w) := by
  obtain ⟨A, c, rfl, -, -⟩ := hu.mk_
  by_cases hlong : 80 < info.length
  · have i0 : (80 : Int) < (info.length : Int) := by omega
    have hr := Lib.hid (roused_any w)
    clear hu
    go_enter Try.func3, Try.ntmps3
    go_wp2_with fail
    refine hr.out.mono ?_
    rintro e w1 ⟨rfl, hb1⟩
    dsimp only
    go_wp2_with fail
    go_ret
    exact ⟨rfl, hb1⟩
  · have i0 : ¬ ((80 : Int) < (info.length : Int)) := by omega
    have q1 := fun W => within_any seed 1000 (by omega) (by omega) W
    have q2 := fun W => within_any n 64 (by omega) (by omega) W
    have hn0 := Int.emod_nonneg n (show (64 : Int) ≠ 0 by omega)
    have hn1 := Int.emod_lt_of_pos n (show (0 : Int) < 64 by omega)
    generalize seed % 1000 = sd at *
    obtain ⟨nn, hnn⟩ := Int.eq_ofNat_of_zero_le hn0
    rw [hnn] at hn1
    rw [hnn] at q2
    clear hn0 hnn
    have m1 : IntKind.i64.wrap (1 + (nn : Int)) = ((1 + nn : Nat) : Int) := by rw [IntKind.wrap_i64]; omega
    have hkey := fun W => wbytes_any sd (1 + nn) (by omega) W
    have hkl := bytesW_len sd (1 + nn)
    generalize bytesW sd (1 + nn) = key at *
    have hk64 : key.length ≤ 64 := by omega
    rw [show 1 + nn = key.length by omega] at m1 hkey
    replace q1 := Lib.hid q1
    replace q2 := Lib.hid q2
    replace hkey := Lib.hid hkey
    replace hu := Lib.hid hu
    replace hk64 := Lib.hid hk64
    clear hkl
    replace hn1 := Lib.hid hn1
    replace hlong := Lib.hid hlong
    go_enter Try.func3, Try.ntmps3
    go_wp2_with fail
    refine (q1.out _).mono ?_
    rintro e w1 ⟨rfl, rfl⟩
    dsimp only
    go_wp2_with fail
    refine (q2.out _).mono ?_
    rintro e w1 ⟨rfl, rfl⟩
    dsimp only
    go_wp2_with fail
    refine (hkey.out _).mono ?_
    rintro e W1 ⟨v1, rfl, h1, hb1, -⟩
    obtain ⟨Ak, ck, rfl, -, -⟩ := h1.mk_
    have hP := padZ_len key hk64.out
    have hz0 : mixL 54 0 (padZ key) = List.replicate 64 0 := by simp [mixL]
    have hz1 : mixL 92 0 (padZ key) = List.replicate 64 0 := by simp [mixL]
    have hmk : ∀ W : World, (Instr.makeSlice 22 (.int .i64 64) (.int .i64 64)).run Try.prog W = .ok (.slice (some ⟨W.heap.size, 0, none⟩) 64 64) (W.alloc (.cells (vb (List.replicate 64 0)).toArray 5)) := fun W => make_bytes 64 (by omega) W
    generalize (List.replicate 64 (0 : UInt8)) = Z at *
    replace h1 := Lib.hid h1
    replace hb1 := Lib.hid hb1
    replace hz0 := Lib.hid hz0
    replace hz1 := Lib.hid hz1
    replace hP := Lib.hid hP
    clear hkey q1 q2
    dsimp only
    go_upto_region 4 with (fail)
    go_cut [8, 9] (fun v8 v9 W => RowsK W1.heap.size Z Z v8 v9 W ∧ Below W1.heap.size W1 W)
    case first =>
      have hal := balloc W1 (.cells (vb Z).toArray 5)
      have hal2 := balloc (W1.alloc (.cells (vb Z).toArray 5)) (.cells (vb Z).toArray 5)
      have hxa := (Box.new W1 5 (vb Z)).below hal2
      have hxb := Box.new (W1.alloc (.cells (vb Z).toArray 5)) 5 (vb Z)
      rw [World.size_alloc] at hxb
      replace hal2 := Lib.hid (bgo hal hal2)
      replace hxa := Lib.hid hxa
      replace hxb := Lib.hid hxb
      clear hal
      go_wp2_with fail
      go_region
      · go_wp2_with fail
        go_meet
        exact ⟨⟨_, _, rfl, rfl, by omega, Nat.le_refl _, by omega, hxa.out, hxb.out⟩, hal2.out.drew⟩
      · go_wp2_with fail
        go_meet
        exact ⟨⟨_, _, rfl, rfl, by omega, by omega, Nat.le_refl _, hxb.out, hxa.out⟩, hal2.out.drew⟩
    case rest =>
    obtain ⟨⟨g1, g2, rfl, rfl, hne, hg1, hg2, hx1, hx2⟩, hbc⟩ := hcut
    rw [← hz0.out] at hx1
    rw [← hz1.out] at hx2
    generalize hPe : padZ key = P at *
    replace hPe := Lib.hid hPe
    replace hx1 := Lib.hid hx1
    replace hx2 := Lib.hid hx2
    replace hbc := Lib.hid hbc
    clear hz0 hz1 hmk
    go_wp2_with fail
    go_loopw [10] (fun t wr => ∃ k : Nat, k ≤ 64 ∧ t = .int .i64 k ∧ Box wr g1 5 (vb (mixL 54 k P)) ∧ Box wr g2 5 (vb (mixL 92 k P)) ∧ Below W1.heap.size W1 wr) (fun t _ => 64 - (intOf t).toNat)
    case atStart => exact ⟨0, by omega, rfl, hx1.out, hx2.out, hbc.out⟩
    case round =>
      clear hx1 hx2 hbc
      obtain ⟨k, hk, rfl, hx1, hx2, hbw⟩ := hrel
      by_cases hlt : k < 64
      · have c1 := hx1.cell k
        rw [vb_get, mixL_get 54 k P hP.out hlt, Option.map_some] at c1
        replace c1 : wr.cell? ⟨g1, k, none⟩ = some (.int .u8 0) := c1
        have f1 := hx1.frozen k
        have c2 := hx2.cell k
        rw [vb_get, mixL_get 92 k P hP.out hlt, Option.map_some] at c2
        replace c2 : wr.cell? ⟨g2, k, none⟩ = some (.int .u8 0) := c2
        have f2 := hx2.frozen k
        have s1 := mixL_set 54 k P hP.out hlt
        have s2 := mixL_set 92 k P hP.out hlt
        have e1 := xorM_eq (P.getD k 0) 54
        have e2 := xorM_eq (P.getD k 0) 92
        have i1 : (0 : Int) ≤ (k : Int) := by omega
        have i2 : (k : Int) < 64 := by omega
        by_cases hin : k < key.length
        · have i3 : (k : Int) < (key.length : Int) := by omega
          have hpz := padZ_in key k hin
          rw [hPe.out] at hpz
          obtain ⟨bk, ok, rfl, hbk, hck⟩ := h1.out.at_ (by omega)
          have ck := (hbw.cell (p := ⟨bk, ok + k, none⟩) (by dsimp only; omega)).trans (hck k hin)
          rw [← hpz] at ck
          replace ck : wr.cell? ⟨bk, ok + k, none⟩ = some (.int .u8 ((P.getD k 0).toNat : Int)) := ck
          generalize xorM (P.getD k 0) 54 = y1 at *
          generalize xorM (P.getD k 0) 92 = y2 at *
          generalize P.getD k 0 = z at *
          have hk1 : bk ≠ g1 := by omega
          have hk2 : bk ≠ g2 := by omega
          clear hck
          replace s1 := Lib.hid s1
          replace s2 := Lib.hid s2
          replace hx1 := Lib.hid hx1
          replace hx2 := Lib.hid hx2
          replace hbw := Lib.hid hbw
          replace hpz := Lib.hid hpz
          go_wp2_with fail
          go_region
          have hqa := (hx1.out.set k (byV z)).other (j := k) (v := byV z) hne
          have hqb := (hx2.out.other (j := k) (v := byV z) (Ne.symm hne)).set k (byV z)
          rw [vb_set] at hqa hqb
          have hqz := ((hbw.out.setCell (p := ⟨g1, k, none⟩) hg1 (byV z)).setCell (p := ⟨g2, k, none⟩) hg2 (byV z)).drew
          have t1 : ((mixL 54 k P).set k z).set k y1 = mixL 54 (k + 1) P := by rw [List.set_set]; exact s1.out
          have t2 : ((mixL 92 k P).set k z).set k y2 = mixL 92 (k + 1) P := by rw [List.set_set]; exact s2.out
          have l1 : ((mixL 54 k P).set k z)[k]? = some z := by rw [List.getElem?_set_self (by rw [mixL_len 54 k P hP.out hk]; omega)]
          have l2 : ((mixL 92 k P).set k z)[k]? = some z := by rw [List.getElem?_set_self (by rw [mixL_len 92 k P hP.out hk]; omega)]
          generalize (mixL 54 k P).set k z = La at *
          generalize (mixL 92 k P).set k z = Lb at *
          replace hqa : Box (((wr.setCell ⟨g1, k, none⟩ (byV z)).setCell ⟨g2, k, none⟩ (byV z)).drew) g1 5 (vb La) := hqa
          replace hqb : Box (((wr.setCell ⟨g1, k, none⟩ (byV z)).setCell ⟨g2, k, none⟩ (byV z)).drew) g2 5 (vb Lb) := hqb
          clear hx1 hx2 hbw s1 s2 c1 c2 f1 f2 ck
          change Exit.then _ _ _ _ (((wr.setCell ⟨g1, k, none⟩ (byV z)).setCell ⟨g2, k, none⟩ (byV z)).drew)
          generalize ((wr.setCell ⟨g1, k, none⟩ (byV z)).setCell ⟨g2, k, none⟩ (byV z)).drew = W at *
          have c1 := hqa.cell k
          rw [vb_get, l1, Option.map_some] at c1
          replace c1 : W.cell? ⟨g1, k, none⟩ = some (.int .u8 (z.toNat : Int)) := c1
          have f1 := hqa.frozen k
          have c2 := hqb.cell k
          rw [vb_get, l2, Option.map_some] at c2
          replace c2 : W.cell? ⟨g2, k, none⟩ = some (.int .u8 (z.toNat : Int)) := c2
          have f2 := hqb.frozen k
          have hx1 := Lib.hid hqa
          have hx2 := Lib.hid hqb
          have hbw := Lib.hid hqz
          have s1 := Lib.hid t1
          have s2 := Lib.hid t2
          clear hqa hqb hqz t1 t2 l1 l2
          have hA := (hx1.out.set k (byV y1)).other (j := k) (v := byV y2) hne
          have hB2 := (hx2.out.other (j := k) (v := byV y1) (Ne.symm hne)).set k (byV y2)
          rw [vb_set, s1.out] at hA
          rw [vb_set, s2.out] at hB2
          have hbz := ((hbw.out.setCell (p := ⟨g1, k, none⟩) hg1 (byV y1)).setCell (p := ⟨g2, k, none⟩) hg2 (byV y2)).drew
          replace hA := Lib.hid hA
          replace hB2 := Lib.hid hB2
          replace hbz := Lib.hid hbz
          clear hx1 hx2 hbw s1 s2
          go_wp2_with fail
          go_region
          all_goals
            go_wp2_with fail
            go_roundw
            case rel => exact ⟨k + 1, by omega, by go_num, hA.out, hB2.out, hbz.out⟩
            case measure => simp [intOf]; omega
        · have i3 : ¬ ((k : Int) < (key.length : Int)) := by omega
          have hpz := padZ_out key k (by omega)
          rw [hPe.out] at hpz
          rw [hpz] at e1 e2 s1 s2
          generalize xorM 0 54 = y1 at *
          generalize xorM 0 92 = y2 at *
          have e1 : bits .xor .u8 0 54 = (y1.toNat : Int) := e1
          have e2 : bits .xor .u8 0 92 = (y2.toNat : Int) := e2
          clear hpz
          replace s1 := Lib.hid s1
          replace s2 := Lib.hid s2
          replace hx1 := Lib.hid hx1
          replace hx2 := Lib.hid hx2
          replace hbw := Lib.hid hbw
          have hA := (hx1.out.set k (byV y1)).other (j := k) (v := byV y2) hne
          have hB2 := (hx2.out.other (j := k) (v := byV y1) (Ne.symm hne)).set k (byV y2)
          rw [vb_set, s1.out] at hA
          rw [vb_set, s2.out] at hB2
          have hbz := ((hbw.out.setCell (p := ⟨g1, k, none⟩) hg1 (byV y1)).setCell (p := ⟨g2, k, none⟩) hg2 (byV y2)).drew
          replace hA := Lib.hid hA
          replace hB2 := Lib.hid hB2
          replace hbz := Lib.hid hbz
          clear hx1 hx2 hbw s1 s2
          go_wp2_with fail
          go_region
          all_goals
            go_wp2_with fail
            go_roundw
            case rel => exact ⟨k + 1, by omega, by go_num, hA.out, hB2.out, hbz.out⟩
            case measure => simp [intOf]; omega
      · obtain rfl : k = 64 := by omega
        have hM1 : Hid (mixL 54 64 P = maskG key 54) := by rw [← hPe.out]; exact mixL_all 54 key hk64.out
        have hM2 : Hid (mixL 92 64 P = maskG key 92) := by rw [← hPe.out]; exact mixL_all 92 key hk64.out
        rw [hM1.out] at hx1
        rw [hM2.out] at hx2
        have hl1 := maskG_len key 54 hk64.out
        have hl2 := maskG_len key 92 hk64.out
        have hG : Hid (∀ b, macG key b = sha (maskG key 92 ++ sha (maskG key 54 ++ b))) := fun b => rfl
        have hin := box_sees hx1 64 64 (by omega) (Nat.le_refl _) (by unfold maxLen; omega) wr.heap.size hx1.lt
        have hou := box_sees hx2 64 64 (by omega) (Nat.le_refl _) (by unfold maxLen; omega) wr.heap.size hx2.lt
        rw [List.take_of_length_le (by omega)] at hin hou
        have hkey := seesB_of h1.out (Nat.le_refl _) hbw
        have hinf := hu.out.below ((hb1.out.trans (hbw.mono hb1.out.size)).mono hB)
        replace hinf := hinf.more (B' := wr.heap.size) (Nat.le_trans hB (Nat.le_trans hb1.out.size hbw.size))
        have hbz := bgo hb1.out hbw
        generalize maskG key 54 = M1 at *
        generalize maskG key 92 = M2 at *
        generalize mixL 54 64 P = Q1 at *
        generalize mixL 92 64 P = Q2 at *
        clear hM1 hM2 hx1 hx2 h1 hu hb1 hPe hP hbw hg1 hg2 hne
        replace hin := Lib.hid hin
        replace hou := Lib.hid hou
        replace hkey := Lib.hid hkey
        replace hinf := Lib.hid hinf
        replace hbz := Lib.hid hbz
        replace hl1 := Lib.hid hl1
        replace hl2 := Lib.hid hl2
        go_wp2_with fail
        refine (hbegin_any _).mono ?_
        rintro e W2 ⟨v2, rfl, h2, hb2⟩
        have hin2 := Lib.hid (seesB_of hin.out (Nat.le_refl _) hb2)
        replace h2 := Lib.hid h2
        replace hb2 := Lib.hid hb2
        dsimp only
        go_wp2_with fail
        have hmo := hmore_any _ v2 _ st0 [] M1 0 W2 h2.out hin2.out (Nat.le_refl _) (by have := hl1.out; omega)
        replace hmo := Lib.hid hmo
        refine hmo.out.mono ?_
        rintro e W3 ⟨v3, rfl, h3, hb3⟩
        generalize hs1 : absorb st0 ([] ++ M1) (([] ++ M1 : Bs).length / 64) = s1 at *
        generalize hr1 : ([] ++ M1 : Bs).drop (64 * (([] ++ M1 : Bs).length / 64)) = r1 at *
        have hsm := steps_sum M1 info s1 r1 hl1.out hs1.symm hr1.symm
        obtain ⟨g3, A3, c3, he, -, -, -⟩ := id h3
        subst he
        generalize hn3 : 0 + M1.length = n3 at *
        have hn3l : n3 = 64 := by have := hl1.out; omega
        have hb4 := balloc W3 (.cells #[.slice (some ⟨g3, 0, none⟩) 8 8, .slice A3 r1.length c3, .int .i64 (n3 : Int)] 28)
        have hx4 := Box.new W3 28 [.slice (some ⟨g3, 0, none⟩) 8 8, .slice A3 r1.length c3, .int .i64 (n3 : Int)]
        have h4 := h3.below hb4
        have hb24 := Lib.hid (bgo hb2.out (bgo hb3 hb4))
        have hp3 := Lib.hid (Nat.le_trans hb2.out.size hb3.size)
        clear hs1 hr1 hmo h2 hb2 hin2 hin hb3 hb4 h3
        replace hsm := Lib.hid hsm
        replace hn3l := Lib.hid hn3l
        replace hn3 := Lib.hid hn3
        obtain ⟨p, hp⟩ : ∃ p, p = W3.heap.size := ⟨_, rfl⟩
        have hlt4 := hx4.lt
        obtain ⟨x0, x1, x2, y0, y1, y2⟩ := box3_cells hx4
        change W3.heap.size < (W3.alloc (.cells #[.slice (some ⟨g3, 0, none⟩) 8 8, .slice A3 r1.length c3, .int .i64 (n3 : Int)] 28)).heap.size at hlt4
        replace h4 := Lib.hid h4
        replace hx4 := Lib.hid hx4
        dsimp only
        go_wp2_with fail
        change Calls _ _ _ (W3.alloc (.cells #[.slice (some ⟨g3, 0, none⟩) 8 8, .slice A3 r1.length c3, .int .i64 (n3 : Int)] 28)) _
        generalize W3.alloc (.cells #[.slice (some ⟨g3, 0, none⟩) 8 8, .slice A3 r1.length c3, .int .i64 (n3 : Int)] 28) = W4 at *
        have hwp : wr.heap.size ≤ p := by rw [hp]; exact hp3.out
        rw [← hp] at x0 x1 x2 y0 y1 y2 hlt4 hx4 ⊢
        clear hp hp3
        have hmo := Lib.hid (hmore_any _ _ _ s1 r1 info n3 W4 h4.out (seesB_of hinf.out (Nat.le_refl _) hb24.out) (Nat.le_refl _) (by have := hn3l.out; omega))
        refine hmo.out.mono ?_
        rintro e W5 ⟨v5, rfl, h5, hb5⟩
        generalize absorb s1 (r1 ++ info) ((r1 ++ info).length / 64) = s2 at *
        generalize (r1 ++ info).drop (64 * ((r1 ++ info).length / 64)) = r2 at *
        obtain ⟨g5, A5, c5, he, -, -, -⟩ := id h5
        subst he
        generalize hn5 : n3 + info.length = n5 at *
        have hn5l : n5 ≤ 1048576 := by have := hn3l.out; omega
        have hx5 := hx4.out.below hb5
        replace hb24 := Lib.hid (bgo hb24.out hb5)
        clear hmo x0 x1 x2 y0 y1 y2 h4 hx4 hb5
        obtain ⟨x0, x1, x2, y0, y1, y2⟩ := box3_cells hx5
        replace hn5l := Lib.hid hn5l
        replace hx5 := Lib.hid hx5
        replace h5 := Lib.hid h5
        replace hsm := Lib.hid hsm
        dsimp only
        go_wp2_with fail
        have h6 := h5.out.poke3 (a' := some ⟨g5, 0, none⟩) (n1' := 8) (c1' := 8) (b' := A5) (n2' := r2.length) (c2' := c5) (k' := (n5 : Int)) hx5.out
        have hb26 := ((hb24.out.setCell (p := ⟨p, 0, none⟩) hwp (.slice (some ⟨g5, 0, none⟩) 8 8)).setCell (p := ⟨p, 1, none⟩) hwp (.slice A5 r2.length c5)).setCell (p := ⟨p, 2, none⟩) hwp (.int .i64 (n5 : Int))
        clear x0 x1 x2 y0 y1 y2 h5 hx5 hb24
        generalize ((W5.setCell ⟨p, 0, none⟩ (.slice (some ⟨g5, 0, none⟩) 8 8)).setCell ⟨p, 1, none⟩ (.slice A5 r2.length c5)).setCell ⟨p, 2, none⟩ (.int .i64 (n5 : Int)) = W6 at *
        have hen := hend_any _ s2 r2 n5 W6 h6 hn5l.out
        rw [hsm.out] at hen
        refine hen.mono ?_
        rintro e W7 ⟨v7, rfl, h7, hb7⟩
        replace hb7 := bgo hb26 hb7
        have hkey7 := Lib.hid (seesB_of hkey.out (Nat.le_refl _) hb7)
        have hinf7 := Lib.hid (seesB_of hinf.out (Nat.le_refl _) hb7)
        have hou7 := Lib.hid (seesB_of hou.out (Nat.le_refl _) hb7)
        have hbz7 := Lib.hid (bgo hbz.out hb7)
        replace h7 := Lib.hid h7.sees
        obtain ⟨A7, c7, rfl, -, -⟩ := h7.out.mk_
        clear hen h6 hb26 hsm hb7 hkey hinf hou hbz hwp hn5l hn3 hn3l hlt4
        have hX : Hid ((sha (M1 ++ info)).length = 32) := sha_len _
        generalize hXe : sha (M1 ++ info) = X at *
        replace hXe := Lib.hid hXe
        rw [hX.out] at h7 ⊢
        have hex := Lib.hid (expand_any _ _ _ key info W7 hkey7.out hinf7.out (Nat.le_refl _) hk64.out (by omega))
        dsimp only
        go_wp2_with fail
        refine hex.out.mono ?_
        rintro e W8 ⟨v8, rfl, h8, hb8⟩
        obtain ⟨A8, c8, rfl, hc8, -⟩ := h8.mk_
        have hTl : (outK key info 2).length = 64 := outK_len key info 2
        have hT1 := Lib.hid (out_take key info)
        have hT2 := Lib.hid (out_drop key info)
        generalize outK key info 2 = T at *
        rw [hTl] at h8 hc8 ⊢
        have hal := balloc W8 (.cells #[.int .u8 1] 5)
        have hj := rjoin_lit0 (vs := [.slice A info.length c, .slice (some ⟨W8.heap.size, 0, none⟩) 1 1]) [info, [1]] (W8.alloc (.cells #[.int .u8 1] 5)) ⟨seesB_of hinf7.out (Nat.le_refl _) (bgo hb8 hal), (one_byte W8 1 1 rfl).sees, trivial⟩ (by simp) (by simp; omega)
        have hfl : [info, [1]].flatten = info ++ [1] := by simp
        rw [hfl, World.size_alloc] at hj
        have hI1l : (info ++ [1]).length ≤ 1048576 := by simp; omega
        generalize info ++ [1] = I1 at *
        replace hj := Lib.hid hj
        replace hb8 := Lib.hid hb8
        replace hal := Lib.hid hal
        replace h8 := Lib.hid h8
        replace hI1l := Lib.hid hI1l
        replace hTl := Lib.hid hTl
        replace hc8 := Lib.hid hc8
        clear hex hfl
        dsimp only
        go_wp2_with fail
        refine hj.out.mono ?_
        rintro e W9 ⟨v9, rfl, h9, hb9⟩
        have hb79 : Hid (Below W7.heap.size W7 W9) := bgo hb8.out (bgo hal.out (by rw [World.size_alloc]; exact hb9))
        obtain ⟨A9, c9, rfl, -, -⟩ := h9.mk_
        have hma := Lib.hid (mac_any _ _ _ key I1 W9 (seesB_of hkey7.out (Nat.le_refl _) hb79.out) h9 (Nat.le_refl _) hk64.out hI1l.out)
        have h89 := Lib.hid (seesB_of h8.out (Nat.le_refl _) (bgo hal.out (by rw [World.size_alloc]; exact hb9)))
        clear hj h9 hb8 hal h8 hb9
        dsimp only
        go_wp2_with fail
        refine hma.out.mono ?_
        rintro e W10 ⟨v10, rfl, h10, hb10⟩
        have h8T := Lib.hid (seesB_of h89.out (Nat.le_refl _) hb10)
        have hb710 := bgo hb79.out hb10
        have hkeyT := Lib.hid (seesB_of hkey7.out (Nat.le_refl _) hb710)
        have hinfT := Lib.hid (seesB_of hinf7.out (Nat.le_refl _) hb710)
        have houT := Lib.hid (seesB_of hou7.out (Nat.le_refl _) hb710)
        have hXT := Lib.hid (seesB_of h7.out (Nat.le_refl _) hb710)
        have hbzT := Lib.hid (bgo hbz7.out hb710)
        have hFl : Hid ((macG key I1).length = 32) := sha_len _
        generalize macG key I1 = F at *
        obtain ⟨A10, c10, rfl, -, -⟩ := h10.sees.mk_
        have hFT := Lib.hid h10.sees
        rw [hFl.out] at hFT ⊢
        clear hma h89 hb79 hb710 hkey7 hinf7 hou7 h7 hbz7 hb10 h10
        have i64 : ((64 : Int) != 64) = false := rfl
        dsimp only
        go_upto_region 18 with (fail)
        have hcut1 := fun W => run_cut_to (P := Try.prog) 22 Try.underlying22 1 byte_size A8 64 c8 .i64 32 (by omega) (by have := hc8.out; omega) W
        have hcut2 := fun W => run_cut_from (P := Try.prog) 22 Try.underlying22 1 byte_size A8 64 c8 .i64 32 (by omega) (by omega) W
        have hS1 := h8T.out.cut (a := 0) (b := 32) (by omega) (by have := hTl.out; omega)
        have hS2 := h8T.out.cut (a := 32) (b := 64) (by omega) (by have := hTl.out; omega)
        rw [List.drop_zero, hT1.out] at hS1
        have hT2' : (T.drop 32).take (64 - 32) = macG key (F ++ info ++ [2]) := by rw [hT2.out]; exact List.take_of_length_le (by rw [show (macG key (F ++ info ++ [2])).length = 32 from sha_len _]; omega)
        rw [hT2'] at hS2
        have hG1 := Lib.hid (hG.out info)
        rw [hXe.out] at hG1
        have c1 : ∀ W, (Instr.slice 22 (.slice A8 64 c8) none (some (.int .i64 32)) none).run Try.prog W = .ok (.slice (cutA A8 c8 0 1) 32 c8) W := hcut1
        have c2 : ∀ W, (Instr.slice 22 (.slice A8 64 c8) (some (.int .i64 32)) none none).run Try.prog W = .ok (.slice (cutA A8 c8 32 1) 32 (c8 - 32)) W := hcut2
        replace hS1 : SeesB W10 W10.heap.size (.slice (cutA A8 c8 0 1) 32 c8) F := hS1
        replace hS2 : SeesB W10 W10.heap.size (.slice (cutA A8 c8 32 1) 32 (c8 - 32)) (macG key (F ++ info ++ [2])) := hS2
        replace hS1 := Lib.hid hS1
        replace hS2 := Lib.hid hS2
        clear hcut1 hcut2 hT2' h8T
        generalize cutA A8 c8 0 1 = A81 at *
        generalize cutA A8 c8 32 1 = A82 at *
        have hf1 : Hid ([M2, X].flatten = M2 ++ X) := by show _ = _; simp
        have hfl1 : Hid ((M2 ++ X).length ≤ 1048576) := by show _ ≤ _; rw [List.length_append]; have := hl2.out; have := hX.out; omega
        have hf2 : Hid ([F, info, [2]].flatten = F ++ info ++ [2]) := by show _ = _; simp
        have hfl2 : Hid ((F ++ info ++ [2]).length ≤ 1048576) := by show _ ≤ _; rw [List.length_append, List.length_append]; have := hFl.out; simp; omega
        generalize M2 ++ X = J1 at *
        generalize F ++ info ++ [2] = J2 at *
        refine wp_region_J (fun _ : World => True) 30 (by kernel_rfl) ?_ (fun hHeld => ?_)
        · (try dsimp only); first | done | trivial
        have hbC := Lib.hid (bdrew W10)
        generalize W10.drew = WX at *
        refine wpAnyJ_ready (rs := [0]) (by kernel_rfl) (by simp) ?_
        refine AllReadyJ.cons (o := _) rfl (fun Kq hKq => ?_) ?_
        · go_simp
          go_at_call 5
          refine (roused_any _).mono ?_
          rintro e WX ⟨rfl, hal⟩
          replace hbC := Lib.hid (bgo hbC.out hal)
          clear hal
          go_wp2_with fail
          refine hKq.out _ _ ?_ (fun hHeld => ?_)
          · intro _; (try dsimp only); first | done | trivial
          clear hKq Kq
          try simp only [Act.put, List.getElem_toArray, List.getElem_cons_succ, List.getElem_cons_zero, List.setIfInBounds_toArray, List.set_cons_zero, List.set_cons_succ]
          refine wpAnyJ_take0 (i := 1) (v := ?_) rfl (by kernel_rfl) (by kernel_rfl) (by kernel_rfl) (fun _ _ _ h => h) (by rfl) (Or.inl ⟨by rfl, ?_⟩) (by assumption) ?_
          rotate_left 1
          · intro w hSw; (try dsimp only at hSw); go_simp <;> (try with_reducible rfl)
          try simp only [Act.put, List.getElem_toArray, List.getElem_cons_succ, List.getElem_cons_zero, List.setIfInBounds_toArray, List.set_cons_zero, List.set_cons_succ]
          refine wpAnyJ_take0 (i := 2) (v := ?_) rfl (by kernel_rfl) (by kernel_rfl) (by kernel_rfl) (fun _ _ _ h => h) (by rfl) (Or.inl ⟨by rfl, ?_⟩) (by assumption) ?_
          rotate_left 1
          · intro w hSw; (try dsimp only at hSw); go_simp <;> (try with_reducible rfl)
          try simp only [Act.put, List.getElem_toArray, List.getElem_cons_succ, List.getElem_cons_zero, List.setIfInBounds_toArray, List.set_cons_zero, List.set_cons_succ]
          refine wpAnyJ_take0 (i := 3) (v := ?_) rfl (by kernel_rfl) (by kernel_rfl) (by kernel_rfl) (fun _ _ _ h => h) (by rfl) (Or.inl ⟨by rfl, ?_⟩) (by assumption) ?_
          rotate_left 1
          · intro w hSw; (try dsimp only at hSw); go_simp <;> (try with_reducible rfl)
          try simp only [Act.put, List.getElem_toArray, List.getElem_cons_succ, List.getElem_cons_zero, List.setIfInBounds_toArray, List.set_cons_zero, List.set_cons_succ]
          refine wpAnyJ_take0 (i := 5) (v := ?_) rfl (by kernel_rfl) (by kernel_rfl) (by kernel_rfl) (fun _ _ _ h => h) (by rfl) (Or.inl ⟨by rfl, ?_⟩) (by assumption) ?_
          rotate_left 1
          · intro w hSw; (try dsimp only at hSw); go_simp <;> (try with_reducible rfl)
          try simp only [Act.put, List.getElem_toArray, List.getElem_cons_succ, List.getElem_cons_zero, List.setIfInBounds_toArray, List.set_cons_zero, List.set_cons_succ]
          refine wpAnyJ_take0 (i := 6) (v := ?_) rfl (by kernel_rfl) (by kernel_rfl) (by kernel_rfl) (fun _ _ _ h => h) (by rfl) (Or.inl ⟨by rfl, ?_⟩) (by assumption) ?_
          rotate_left 1
          · intro w hSw; (try dsimp only at hSw); go_simp <;> (try with_reducible rfl)
          try simp only [Act.put, List.getElem_toArray, List.getElem_cons_succ, List.getElem_cons_zero, List.setIfInBounds_toArray, List.set_cons_zero, List.set_cons_succ]
          refine wpAnyJ_ready (rs := [4, 7]) (by kernel_rfl) (by simp) ?_
          refine AllReadyJ.cons (o := _) rfl (fun Kq hKq => ?_) ?_
          · go_simp
            go_at_call 12
            refine (mac_any _ _ _ key info WX (seesB_of hkeyT.out (Nat.le_refl _) hbC.out) (seesB_of hinfT.out (Nat.le_refl _) hbC.out) (Nat.le_refl _) hk64.out (by omega)).mono ?_
            rintro e WX ⟨vQ, rfl, hNew, hal⟩
            obtain ⟨AQhR, cQhR, rfl, -, -⟩ := hNew.sees.mk_
            replace hbC := Lib.hid (bgo hbC.out hal)
            have hR := hNew.sees
            clear hNew hal
            go_wp2_with fail
            refine hKq.out _ _ ?_ (fun hHeld => ?_)
            · intro _; (try dsimp only); first | done | trivial
            clear hKq Kq
            try simp only [Act.put, List.getElem_toArray, List.getElem_cons_succ, List.getElem_cons_zero, List.setIfInBounds_toArray, List.set_cons_zero, List.set_cons_succ]
            refine wpAnyJ_ready (rs := [7]) (by kernel_rfl) (by simp) ?_
            refine AllReadyJ.cons (o := _) rfl (fun Kq hKq => ?_) ?_
            · go_simp
              have hLL := seesL_lit WX 22 (vs := [.slice (some ⟨g2, 0, none⟩) 64 64, .slice A7 32 c7]) (ls := [M2, X]) ⟨seesB_of houT.out (Nat.le_refl _) hbC.out, seesB_of hXT.out (Nat.le_refl _) hbC.out, trivial⟩ (by simp [maxLen])
              have hal := balloc WX (.cells #[.slice (some ⟨g2, 0, none⟩) 64 64, .slice A7 32 c7] 22)
              change SeesL (WX.alloc (.cells #[.slice (some ⟨g2, 0, none⟩) 64 64, .slice A7 32 c7] 22)) (WX.alloc (.cells #[.slice (some ⟨g2, 0, none⟩) 64 64, .slice A7 32 c7] 22)).heap.size (.slice (some ⟨WX.heap.size, 0, none⟩) 2 2) _ at hLL
              replace hR := seesB_of hR (Nat.le_refl _) hal
              replace hbC := Lib.hid (bgo hbC.out hal)
              clear hal
              generalize WX.heap.size = gL at hLL ⊢
              generalize WX.alloc (.cells #[.slice (some ⟨g2, 0, none⟩) 64 64, .slice A7 32 c7] 22) = WX at *
              refine hKq.out _ _ ?_ (fun hHeld => ?_)
              · intro _; (try dsimp only); first | done | trivial
              clear hKq Kq
              try simp only [Act.put, List.getElem_toArray, List.getElem_cons_succ, List.getElem_cons_zero, List.setIfInBounds_toArray, List.set_cons_zero, List.set_cons_succ]
              refine wpAnyJ_ready (rs := [8]) (by kernel_rfl) (by simp) ?_
              refine AllReadyJ.cons (o := _) rfl (fun Kq hKq => ?_) ?_
              · go_simp
                go_at_call 13
                refine (rjoin_any _ _ _ WX hLL (Nat.le_refl _) (by rw [hf1.out]; have := hfl1.out; omega)).mono ?_
                rintro e WX ⟨vQ, rfl, hNew, hal⟩
                rw [hf1.out] at hNew
                obtain ⟨AQhJ, cQhJ, rfl, -, -⟩ := hNew.sees.mk_
                replace hR := seesB_of hR (Nat.le_refl _) hal
                replace hLL := (hLL.below hal).more (hal).size
                replace hbC := Lib.hid (bgo hbC.out hal)
                have hJ := hNew.sees
                clear hNew hal
                go_wp2_with fail
                refine hKq.out _ _ ?_ (fun hHeld => ?_)
                · intro _; (try dsimp only); first | done | trivial
                clear hKq Kq
                try simp only [Act.put, List.getElem_toArray, List.getElem_cons_succ, List.getElem_cons_zero, List.setIfInBounds_toArray, List.set_cons_zero, List.set_cons_succ]
                refine wpAnyJ_ready (rs := [9]) (by kernel_rfl) (by simp) ?_
                refine AllReadyJ.cons (o := _) rfl (fun Kq hKq => ?_) ?_
                · go_simp
                  go_at_call 15
                  refine (sum_any _ _ _ WX hJ (Nat.le_refl _) (by have := hfl1.out; omega)).mono ?_
                  rintro e WX ⟨vQ, rfl, hNew, hal⟩
                  obtain ⟨AQhS, cQhS, rfl, -, -⟩ := hNew.sees.mk_
                  replace hR := seesB_of hR (Nat.le_refl _) hal
                  replace hJ := seesB_of hJ (Nat.le_refl _) hal
                  replace hbC := Lib.hid (bgo hbC.out hal)
                  have hS := hNew.sees
                  clear hNew hal
                  go_wp2_with fail
                  refine hKq.out _ _ ?_ (fun hHeld => ?_)
                  · intro _; (try dsimp only); first | done | trivial
                  clear hKq Kq
                  try simp only [Act.put, List.getElem_toArray, List.getElem_cons_succ, List.getElem_cons_zero, List.setIfInBounds_toArray, List.set_cons_zero, List.set_cons_succ]
                  refine wpAnyJ_ready (rs := [10]) (by kernel_rfl) (by simp) ?_
                  refine AllReadyJ.cons (o := _) rfl (fun Kq hKq => ?_) ?_
                  · go_simp
                    go_at_call 14
                    refine (rsame_self _ _ _ _ _ _ WX hR hS hG1.out).mono ?_
                    rintro e WX ⟨rfl, rfl⟩
                    go_wp2_with fail
                    refine hKq.out _ _ ?_ (fun hHeld => ?_)
                    · intro _; (try dsimp only); first | done | trivial
                    clear hKq Kq
                    try simp only [Act.put, List.getElem_toArray, List.getElem_cons_succ, List.getElem_cons_zero, List.setIfInBounds_toArray, List.set_cons_zero, List.set_cons_succ]
                    refine wpAnyJ_take0 (i := 11) (v := ?_) rfl (by kernel_rfl) (by kernel_rfl) (by kernel_rfl) (fun _ _ _ h => h) (by rfl) (Or.inl ⟨by rfl, ?_⟩) (by assumption) ?_
                    rotate_left 1
                    · intro w hSw; (try dsimp only at hSw); go_simp <;> (try with_reducible rfl)
                    try simp only [Act.put, List.getElem_toArray, List.getElem_cons_succ, List.getElem_cons_zero, List.setIfInBounds_toArray, List.set_cons_zero, List.set_cons_succ]
                    refine wpAnyJ_take0 (i := 12) (v := ?_) rfl (by kernel_rfl) (by kernel_rfl) (by kernel_rfl) (fun _ _ _ h => h) (by rfl) (Or.inl ⟨by rfl, ?_⟩) (by assumption) ?_
                    rotate_left 1
                    · intro w hSw; (try dsimp only at hSw); go_simp <;> (try with_reducible rfl)
                    try simp only [Act.put, List.getElem_toArray, List.getElem_cons_succ, List.getElem_cons_zero, List.setIfInBounds_toArray, List.set_cons_zero, List.set_cons_succ]
                    refine wpAnyJ_take0 (i := 13) (v := ?_) rfl (by kernel_rfl) (by kernel_rfl) (by kernel_rfl) (fun _ _ _ h => h) (by rfl) (Or.inl ⟨by rfl, ?_⟩) (by assumption) ?_
                    rotate_left 1
                    · intro w hSw; (try dsimp only at hSw); go_simp <;> (try with_reducible rfl)
                    try simp only [Act.put, List.getElem_toArray, List.getElem_cons_succ, List.getElem_cons_zero, List.setIfInBounds_toArray, List.set_cons_zero, List.set_cons_succ]
                    refine wpAnyJ_take0 (i := 15) (v := ?_) rfl (by kernel_rfl) (by kernel_rfl) (by kernel_rfl) (fun _ _ _ h => h) (by rfl) (Or.inl ⟨by rfl, ?_⟩) (by assumption) ?_
                    rotate_left 1
                    · intro w hSw; (try dsimp only at hSw); go_simp <;> (try with_reducible rfl)
                    try simp only [Act.put, List.getElem_toArray, List.getElem_cons_succ, List.getElem_cons_zero, List.setIfInBounds_toArray, List.set_cons_zero, List.set_cons_succ]
                    refine wpAnyJ_ready (rs := [14]) (by kernel_rfl) (by simp) ?_
                    refine AllReadyJ.cons (o := _) rfl (fun Kq hKq => ?_) ?_
                    · go_simp
                      refine hKq.out _ _ ?_ (fun hHeld => ?_)
                      · intro _; (try dsimp only); first | done | trivial
                      clear hKq Kq
                      try simp only [Act.put, List.getElem_toArray, List.getElem_cons_succ, List.getElem_cons_zero, List.setIfInBounds_toArray, List.set_cons_zero, List.set_cons_succ]
                      refine wpAnyJ_ready (rs := [16]) (by kernel_rfl) (by simp) ?_
                      refine AllReadyJ.cons (o := _) rfl (fun Kq hKq => ?_) ?_
                      · go_simp
                        go_at_call 14
                        refine (rsame_self _ _ _ _ _ _ WX (seesB_of hS1.out (Nat.le_refl _) hbC.out) (seesB_of hFT.out (Nat.le_refl _) hbC.out) rfl).mono ?_
                        rintro e WX ⟨rfl, rfl⟩
                        go_wp2_with fail
                        refine hKq.out _ _ ?_ (fun hHeld => ?_)
                        · intro _; (try dsimp only); first | done | trivial
                        clear hKq Kq
                        try simp only [Act.put, List.getElem_toArray, List.getElem_cons_succ, List.getElem_cons_zero, List.setIfInBounds_toArray, List.set_cons_zero, List.set_cons_succ]
                        refine wpAnyJ_take0 (i := 17) (v := ?_) rfl (by kernel_rfl) (by kernel_rfl) (by kernel_rfl) (fun _ _ _ h => h) (by rfl) (Or.inl ⟨by rfl, ?_⟩) (by assumption) ?_
                        rotate_left 1
                        · intro w hSw; (try dsimp only at hSw); go_simp <;> (try with_reducible rfl)
                        try simp only [Act.put, List.getElem_toArray, List.getElem_cons_succ, List.getElem_cons_zero, List.setIfInBounds_toArray, List.set_cons_zero, List.set_cons_succ]
                        refine wpAnyJ_take0 (i := 18) (v := ?_) rfl (by kernel_rfl) (by kernel_rfl) (by kernel_rfl) (fun _ _ _ h => h) (by rfl) (Or.inl ⟨by rfl, ?_⟩) (by assumption) ?_
                        rotate_left 1
                        · intro w hSw; (try dsimp only at hSw); go_simp <;> (try with_reducible rfl)
                        try simp only [Act.put, List.getElem_toArray, List.getElem_cons_succ, List.getElem_cons_zero, List.setIfInBounds_toArray, List.set_cons_zero, List.set_cons_succ]
                        refine wpAnyJ_take0 (i := 19) (v := ?_) rfl (by kernel_rfl) (by kernel_rfl) (by kernel_rfl) (fun _ _ _ h => h) (by rfl) (Or.inl ⟨by rfl, ?_⟩) (by assumption) ?_
                        rotate_left 1
                        · intro w hSw; (try dsimp only at hSw); go_simp <;> (try with_reducible rfl)
                        try simp only [Act.put, List.getElem_toArray, List.getElem_cons_succ, List.getElem_cons_zero, List.setIfInBounds_toArray, List.set_cons_zero, List.set_cons_succ]
                        refine wpAnyJ_take0 (i := 21) (v := ?_) rfl (by kernel_rfl) (by kernel_rfl) (by kernel_rfl) (fun _ _ _ h => h) (by rfl) (Or.inl ⟨by rfl, ?_⟩) (by assumption) ?_
                        rotate_left 1
                        · intro w hSw; (try dsimp only at hSw); go_simp <;> (try with_reducible rfl)
                        try simp only [Act.put, List.getElem_toArray, List.getElem_cons_succ, List.getElem_cons_zero, List.setIfInBounds_toArray, List.set_cons_zero, List.set_cons_succ]
                        refine wpAnyJ_take0 (i := 22) (v := ?_) rfl (by kernel_rfl) (by kernel_rfl) (by kernel_rfl) (fun _ _ _ h => h) (by rfl) (Or.inl ⟨by rfl, ?_⟩) (by assumption) ?_
                        rotate_left 1
                        · intro w hSw; (try dsimp only at hSw); go_simp <;> (try with_reducible rfl)
                        try simp only [Act.put, List.getElem_toArray, List.getElem_cons_succ, List.getElem_cons_zero, List.setIfInBounds_toArray, List.set_cons_zero, List.set_cons_succ]
                        refine wpAnyJ_take0 (i := 23) (v := ?_) rfl (by kernel_rfl) (by kernel_rfl) (by kernel_rfl) (fun _ _ _ h => h) (by rfl) (Or.inl ⟨by rfl, ?_⟩) (by assumption) ?_
                        rotate_left 1
                        · intro w hSw; (try dsimp only at hSw); go_simp <;> (try with_reducible rfl)
                        try simp only [Act.put, List.getElem_toArray, List.getElem_cons_succ, List.getElem_cons_zero, List.setIfInBounds_toArray, List.set_cons_zero, List.set_cons_succ]
                        refine wpAnyJ_ready (rs := [20, 24]) (by kernel_rfl) (by simp) ?_
                        refine AllReadyJ.cons (o := _) rfl (fun Kq hKq => ?_) ?_
                        · go_simp
                          refine hKq.out _ _ ?_ (fun hHeld => ?_)
                          · intro _; (try dsimp only); first | done | trivial
                          clear hKq Kq
                          try simp only [Act.put, List.getElem_toArray, List.getElem_cons_succ, List.getElem_cons_zero, List.setIfInBounds_toArray, List.set_cons_zero, List.set_cons_succ]
                          refine wpAnyJ_ready (rs := [24]) (by kernel_rfl) (by simp) ?_
                          refine AllReadyJ.cons (o := _) rfl (fun Kq hKq => ?_) ?_
                          · go_simp
                            have hT2L := (one_byte WX 2 2 rfl).sees
                            have hal := balloc WX (.cells #[.int .u8 2] 5)
                            replace hbC := Lib.hid (bgo hbC.out hal)
                            clear hal
                            generalize WX.heap.size = gT at hT2L ⊢
                            generalize WX.alloc (.cells #[.int .u8 2] 5) = WX at *
                            refine hKq.out _ _ ?_ (fun hHeld => ?_)
                            · intro _; (try dsimp only); first | done | trivial
                            clear hKq Kq
                            try simp only [Act.put, List.getElem_toArray, List.getElem_cons_succ, List.getElem_cons_zero, List.setIfInBounds_toArray, List.set_cons_zero, List.set_cons_succ]
                            refine wpAnyJ_ready (rs := [25]) (by kernel_rfl) (by simp) ?_
                            refine AllReadyJ.cons (o := _) rfl (fun Kq hKq => ?_) ?_
                            · go_simp
                              have hLL := seesL_lit WX 22 (vs := [.slice A10 32 c10, .slice A info.length c, .slice (some ⟨gT, 0, none⟩) 1 1]) (ls := [F, info, [2]]) ⟨seesB_of hFT.out (Nat.le_refl _) hbC.out, seesB_of hinfT.out (Nat.le_refl _) hbC.out, hT2L, trivial⟩ (by simp [maxLen])
                              have hal := balloc WX (.cells #[.slice A10 32 c10, .slice A info.length c, .slice (some ⟨gT, 0, none⟩) 1 1] 22)
                              change SeesL (WX.alloc (.cells #[.slice A10 32 c10, .slice A info.length c, .slice (some ⟨gT, 0, none⟩) 1 1] 22)) (WX.alloc (.cells #[.slice A10 32 c10, .slice A info.length c, .slice (some ⟨gT, 0, none⟩) 1 1] 22)).heap.size (.slice (some ⟨WX.heap.size, 0, none⟩) 3 3) _ at hLL
                              replace hT2L := seesB_of hT2L (Nat.le_refl _) hal
                              replace hbC := Lib.hid (bgo hbC.out hal)
                              clear hal
                              generalize WX.heap.size = gL at hLL ⊢
                              generalize WX.alloc (.cells #[.slice A10 32 c10, .slice A info.length c, .slice (some ⟨gT, 0, none⟩) 1 1] 22) = WX at *
                              refine hKq.out _ _ ?_ (fun hHeld => ?_)
                              · intro _; (try dsimp only); first | done | trivial
                              clear hKq Kq
                              try simp only [Act.put, List.getElem_toArray, List.getElem_cons_succ, List.getElem_cons_zero, List.setIfInBounds_toArray, List.set_cons_zero, List.set_cons_succ]
                              refine wpAnyJ_ready (rs := [26]) (by kernel_rfl) (by simp) ?_
                              refine AllReadyJ.cons (o := _) rfl (fun Kq hKq => ?_) ?_
                              · go_simp
                                go_at_call 13
                                refine (rjoin_any _ _ _ WX hLL (Nat.le_refl _) (by rw [hf2.out]; have := hfl2.out; omega)).mono ?_
                                rintro e WX ⟨vQ, rfl, hNew, hal⟩
                                rw [hf2.out] at hNew
                                obtain ⟨AQhJ, cQhJ, rfl, -, -⟩ := hNew.sees.mk_
                                replace hLL := (hLL.below hal).more (hal).size
                                replace hbC := Lib.hid (bgo hbC.out hal)
                                have hJ := hNew.sees
                                clear hNew hal
                                go_wp2_with fail
                                refine hKq.out _ _ ?_ (fun hHeld => ?_)
                                · intro _; (try dsimp only); first | done | trivial
                                clear hKq Kq
                                try simp only [Act.put, List.getElem_toArray, List.getElem_cons_succ, List.getElem_cons_zero, List.setIfInBounds_toArray, List.set_cons_zero, List.set_cons_succ]
                                refine wpAnyJ_ready (rs := [27]) (by kernel_rfl) (by simp) ?_
                                refine AllReadyJ.cons (o := _) rfl (fun Kq hKq => ?_) ?_
                                · go_simp
                                  go_at_call 12
                                  refine (mac_any _ _ _ key _ WX (seesB_of hkeyT.out (Nat.le_refl _) hbC.out) hJ (Nat.le_refl _) hk64.out hfl2.out).mono ?_
                                  rintro e WX ⟨vQ, rfl, hNew, hal⟩
                                  obtain ⟨AQhR, cQhR, rfl, -, -⟩ := hNew.sees.mk_
                                  replace hJ := seesB_of hJ (Nat.le_refl _) hal
                                  replace hbC := Lib.hid (bgo hbC.out hal)
                                  have hR := hNew.sees
                                  clear hNew hal
                                  go_wp2_with fail
                                  refine hKq.out _ _ ?_ (fun hHeld => ?_)
                                  · intro _; (try dsimp only); first | done | trivial
                                  clear hKq Kq
                                  try simp only [Act.put, List.getElem_toArray, List.getElem_cons_succ, List.getElem_cons_zero, List.setIfInBounds_toArray, List.set_cons_zero, List.set_cons_succ]
                                  refine wpAnyJ_ready (rs := [28]) (by kernel_rfl) (by simp) ?_
                                  refine AllReadyJ.cons (o := _) rfl (fun Kq hKq => ?_) ?_
                                  · go_simp
                                    go_at_call 14
                                    refine (rsame_self _ _ _ _ _ _ WX (seesB_of hS2.out (Nat.le_refl _) hbC.out) hR rfl).mono ?_
                                    rintro e WX ⟨rfl, rfl⟩
                                    go_wp2_with fail
                                    refine hKq.out _ _ ?_ (fun hHeld => ?_)
                                    · intro _; (try dsimp only); first | done | trivial
                                    clear hKq Kq
                                    try simp only [Act.put, List.getElem_toArray, List.getElem_cons_succ, List.getElem_cons_zero, List.setIfInBounds_toArray, List.set_cons_zero, List.set_cons_succ]
                                    refine wpAnyJ_take0 (i := 29) (v := ?_) rfl (by kernel_rfl) (by kernel_rfl) (by kernel_rfl) (fun _ _ _ h => h) (by rfl) (Or.inl ⟨by rfl, ?_⟩) (by assumption) ?_
                                    rotate_left 1
                                    · intro w hSw; (try dsimp only at hSw); go_simp <;> (try with_reducible rfl)
                                    try simp only [Act.put, List.getElem_toArray, List.getElem_cons_succ, List.getElem_cons_zero, List.setIfInBounds_toArray, List.set_cons_zero, List.set_cons_succ]
                                    refine wpAnyJ_ready (rs := [30]) (by kernel_rfl) (by simp) ?_
                                    refine AllReadyJ.cons (o := _) rfl (fun Kq hKq => ?_) ?_
                                    · go_simp
                                      refine hKq.out _ _ ?_ (fun hHeld => ?_)
                                      · intro hl; exact absurd hl (by decide)
                                      clear hKq Kq
                                      try simp only [Act.put, List.getElem_toArray, List.getElem_cons_succ, List.getElem_cons_zero, List.setIfInBounds_toArray, List.set_cons_zero, List.set_cons_succ]
                                      refine wpAnyJ_done (by kernel_rfl) ?_ _
                                      go_wp2_with fail
                                      go_ret
                                      exact ⟨rfl, bgo hbzT.out hbC.out⟩
                                    exact AllReadyJ.nil
                                  exact AllReadyJ.nil
                                exact AllReadyJ.nil
                              exact AllReadyJ.nil
                            exact AllReadyJ.nil
                          exact AllReadyJ.nil
                        refine AllReadyJ.cons (o := _) rfl (fun Kq hKq => ?_) ?_
                        · go_simp
                          have hT2L := (one_byte WX 2 2 rfl).sees
                          have hal := balloc WX (.cells #[.int .u8 2] 5)
                          replace hbC := Lib.hid (bgo hbC.out hal)
                          clear hal
                          generalize WX.heap.size = gT at hT2L ⊢
                          generalize WX.alloc (.cells #[.int .u8 2] 5) = WX at *
                          refine hKq.out _ _ ?_ (fun hHeld => ?_)
                          · intro _; (try dsimp only); first | done | trivial
                          clear hKq Kq
                          try simp only [Act.put, List.getElem_toArray, List.getElem_cons_succ, List.getElem_cons_zero, List.setIfInBounds_toArray, List.set_cons_zero, List.set_cons_succ]
                          refine wpAnyJ_ready (rs := [20, 25]) (by kernel_rfl) (by simp) ?_
                          refine AllReadyJ.cons (o := _) rfl (fun Kq hKq => ?_) ?_
                          · go_simp
                            refine hKq.out _ _ ?_ (fun hHeld => ?_)
                            · intro _; (try dsimp only); first | done | trivial
                            clear hKq Kq
                            try simp only [Act.put, List.getElem_toArray, List.getElem_cons_succ, List.getElem_cons_zero, List.setIfInBounds_toArray, List.set_cons_zero, List.set_cons_succ]
                            refine wpAnyJ_ready (rs := [25]) (by kernel_rfl) (by simp) ?_
                            refine AllReadyJ.cons (o := _) rfl (fun Kq hKq => ?_) ?_
                            · go_simp
                              have hLL := seesL_lit WX 22 (vs := [.slice A10 32 c10, .slice A info.length c, .slice (some ⟨gT, 0, none⟩) 1 1]) (ls := [F, info, [2]]) ⟨seesB_of hFT.out (Nat.le_refl _) hbC.out, seesB_of hinfT.out (Nat.le_refl _) hbC.out, hT2L, trivial⟩ (by simp [maxLen])
                              have hal := balloc WX (.cells #[.slice A10 32 c10, .slice A info.length c, .slice (some ⟨gT, 0, none⟩) 1 1] 22)
                              change SeesL (WX.alloc (.cells #[.slice A10 32 c10, .slice A info.length c, .slice (some ⟨gT, 0, none⟩) 1 1] 22)) (WX.alloc (.cells #[.slice A10 32 c10, .slice A info.length c, .slice (some ⟨gT, 0, none⟩) 1 1] 22)).heap.size (.slice (some ⟨WX.heap.size, 0, none⟩) 3 3) _ at hLL
                              replace hT2L := seesB_of hT2L (Nat.le_refl _) hal
                              replace hbC := Lib.hid (bgo hbC.out hal)
                              clear hal
                              generalize WX.heap.size = gL at hLL ⊢
                              generalize WX.alloc (.cells #[.slice A10 32 c10, .slice A info.length c, .slice (some ⟨gT, 0, none⟩) 1 1] 22) = WX at *
                              refine hKq.out _ _ ?_ (fun hHeld => ?_)
                              · intro _; (try dsimp only); first | done | trivial
                              clear hKq Kq
                              try simp only [Act.put, List.getElem_toArray, List.getElem_cons_succ, List.getElem_cons_zero, List.setIfInBounds_toArray, List.set_cons_zero, List.set_cons_succ]
                              refine wpAnyJ_ready (rs := [26]) (by kernel_rfl) (by simp) ?_
                              refine AllReadyJ.cons (o := _) rfl (fun Kq hKq => ?_) ?_
                              · go_simp
                                go_at_call 13
                                refine (rjoin_any _ _ _ WX hLL (Nat.le_refl _) (by rw [hf2.out]; have := hfl2.out; omega)).mono ?_
                                rintro e WX ⟨vQ, rfl, hNew, hal⟩
                                rw [hf2.out] at hNew
                                obtain ⟨AQhJ, cQhJ, rfl, -, -⟩ := hNew.sees.mk_
                                replace hLL := (hLL.below hal).more (hal).size
                                replace hbC := Lib.hid (bgo hbC.out hal)
                                have hJ := hNew.sees
                                clear hNew hal
                                go_wp2_with fail
                                refine hKq.out _ _ ?_ (fun hHeld => ?_)
                                · intro _; (try dsimp only); first | done | trivial
                                clear hKq Kq
                                try simp only [Act.put, List.getElem_toArray, List.getElem_cons_succ, List.getElem_cons_zero, List.setIfInBounds_toArray, List.set_cons_zero, List.set_cons_succ]
                                refine wpAnyJ_ready (rs := [27]) (by kernel_rfl) (by simp) ?_
                                refine AllReadyJ.cons (o := _) rfl (fun Kq hKq => ?_) ?_
                                · go_simp
                                  go_at_call 12
                                  refine (mac_any _ _ _ key _ WX (seesB_of hkeyT.out (Nat.le_refl _) hbC.out) hJ (Nat.le_refl _) hk64.out hfl2.out).mono ?_
                                  rintro e WX ⟨vQ, rfl, hNew, hal⟩
                                  obtain ⟨AQhR, cQhR, rfl, -, -⟩ := hNew.sees.mk_
                                  replace hJ := seesB_of hJ (Nat.le_refl _) hal
                                  replace hbC := Lib.hid (bgo hbC.out hal)
                                  have hR := hNew.sees
                                  clear hNew hal
                                  go_wp2_with fail
                                  refine hKq.out _ _ ?_ (fun hHeld => ?_)
                                  · intro _; (try dsimp only); first | done | trivial
                                  clear hKq Kq
                                  try simp only [Act.put, List.getElem_toArray, List.getElem_cons_succ, List.getElem_cons_zero, List.setIfInBounds_toArray, List.set_cons_zero, List.set_cons_succ]
                                  refine wpAnyJ_ready (rs := [28]) (by kernel_rfl) (by simp) ?_
                                  refine AllReadyJ.cons (o := _) rfl (fun Kq hKq => ?_) ?_
                                  · go_simp
                                    go_at_call 14
                                    refine (rsame_self _ _ _ _ _ _ WX (seesB_of hS2.out (Nat.le_refl _) hbC.out) hR rfl).mono ?_
                                    rintro e WX ⟨rfl, rfl⟩
                                    go_wp2_with fail
                                    refine hKq.out _ _ ?_ (fun hHeld => ?_)
                                    · intro _; (try dsimp only); first | done | trivial
                                    clear hKq Kq
                                    try simp only [Act.put, List.getElem_toArray, List.getElem_cons_succ, List.getElem_cons_zero, List.setIfInBounds_toArray, List.set_cons_zero, List.set_cons_succ]
                                    refine wpAnyJ_take0 (i := 29) (v := ?_) rfl (by kernel_rfl) (by kernel_rfl) (by kernel_rfl) (fun _ _ _ h => h) (by rfl) (Or.inl ⟨by rfl, ?_⟩) (by assumption) ?_
                                    rotate_left 1
                                    · intro w hSw; (try dsimp only at hSw); go_simp <;> (try with_reducible rfl)
                                    try simp only [Act.put, List.getElem_toArray, List.getElem_cons_succ, List.getElem_cons_zero, List.setIfInBounds_toArray, List.set_cons_zero, List.set_cons_succ]
                                    refine wpAnyJ_ready (rs := [30]) (by kernel_rfl) (by simp) ?_
                                    refine AllReadyJ.cons (o := _) rfl (fun Kq hKq => ?_) ?_
                                    · go_simp
                                      refine hKq.out _ _ ?_ (fun hHeld => ?_)
                                      · intro hl; exact absurd hl (by decide)
                                      clear hKq Kq
                                      try simp only [Act.put, List.getElem_toArray, List.getElem_cons_succ, List.getElem_cons_zero, List.setIfInBounds_toArray, List.set_cons_zero, List.set_cons_succ]
                                      refine wpAnyJ_done (by kernel_rfl) ?_ _
                                      go_wp2_with fail
                                      go_ret
                                      exact ⟨rfl, bgo hbzT.out hbC.out⟩
                                    exact AllReadyJ.nil
                                  exact AllReadyJ.nil
                                exact AllReadyJ.nil
                              exact AllReadyJ.nil
                            exact AllReadyJ.nil
                          refine AllReadyJ.cons (o := _) rfl (fun Kq hKq => ?_) ?_
                          · go_simp
                            have hLL := seesL_lit WX 22 (vs := [.slice A10 32 c10, .slice A info.length c, .slice (some ⟨gT, 0, none⟩) 1 1]) (ls := [F, info, [2]]) ⟨seesB_of hFT.out (Nat.le_refl _) hbC.out, seesB_of hinfT.out (Nat.le_refl _) hbC.out, hT2L, trivial⟩ (by simp [maxLen])
                            have hal := balloc WX (.cells #[.slice A10 32 c10, .slice A info.length c, .slice (some ⟨gT, 0, none⟩) 1 1] 22)
                            change SeesL (WX.alloc (.cells #[.slice A10 32 c10, .slice A info.length c, .slice (some ⟨gT, 0, none⟩) 1 1] 22)) (WX.alloc (.cells #[.slice A10 32 c10, .slice A info.length c, .slice (some ⟨gT, 0, none⟩) 1 1] 22)).heap.size (.slice (some ⟨WX.heap.size, 0, none⟩) 3 3) _ at hLL
                            replace hT2L := seesB_of hT2L (Nat.le_refl _) hal
                            replace hbC := Lib.hid (bgo hbC.out hal)
                            clear hal
                            generalize WX.heap.size = gL at hLL ⊢
                            generalize WX.alloc (.cells #[.slice A10 32 c10, .slice A info.length c, .slice (some ⟨gT, 0, none⟩) 1 1] 22) = WX at *
                            refine hKq.out _ _ ?_ (fun hHeld => ?_)
                            · intro _; (try dsimp only); first | done | trivial
                            clear hKq Kq
                            try simp only [Act.put, List.getElem_toArray, List.getElem_cons_succ, List.getElem_cons_zero, List.setIfInBounds_toArray, List.set_cons_zero, List.set_cons_succ]
                            refine wpAnyJ_ready (rs := [20, 26]) (by kernel_rfl) (by simp) ?_
                            refine AllReadyJ.cons (o := _) rfl (fun Kq hKq => ?_) ?_
                            · go_simp
                              refine hKq.out _ _ ?_ (fun hHeld => ?_)
                              · intro _; (try dsimp only); first | done | trivial
                              clear hKq Kq
                              try simp only [Act.put, List.getElem_toArray, List.getElem_cons_succ, List.getElem_cons_zero, List.setIfInBounds_toArray, List.set_cons_zero, List.set_cons_succ]
                              refine wpAnyJ_ready (rs := [26]) (by kernel_rfl) (by simp) ?_
                              refine AllReadyJ.cons (o := _) rfl (fun Kq hKq => ?_) ?_
                              · go_simp
                                go_at_call 13
                                refine (rjoin_any _ _ _ WX hLL (Nat.le_refl _) (by rw [hf2.out]; have := hfl2.out; omega)).mono ?_
                                rintro e WX ⟨vQ, rfl, hNew, hal⟩
                                rw [hf2.out] at hNew
                                obtain ⟨AQhJ, cQhJ, rfl, -, -⟩ := hNew.sees.mk_
                                replace hLL := (hLL.below hal).more (hal).size
                                replace hbC := Lib.hid (bgo hbC.out hal)
                                have hJ := hNew.sees
                                clear hNew hal
                                go_wp2_with fail
                                refine hKq.out _ _ ?_ (fun hHeld => ?_)
                                · intro _; (try dsimp only); first | done | trivial
                                clear hKq Kq
                                try simp only [Act.put, List.getElem_toArray, List.getElem_cons_succ, List.getElem_cons_zero, List.setIfInBounds_toArray, List.set_cons_zero, List.set_cons_succ]
                                refine wpAnyJ_ready (rs := [27]) (by kernel_rfl) (by simp) ?_
                                refine AllReadyJ.cons (o := _) rfl (fun Kq hKq => ?_) ?_
                                · go_simp
                                  go_at_call 12
                                  refine (mac_any _ _ _ key _ WX (seesB_of hkeyT.out (Nat.le_refl _) hbC.out) hJ (Nat.le_refl _) hk64.out hfl2.out).mono ?_
                                  rintro e WX ⟨vQ, rfl, hNew, hal⟩
                                  obtain ⟨AQhR, cQhR, rfl, -, -⟩ := hNew.sees.mk_
                                  replace hJ := seesB_of hJ (Nat.le_refl _) hal
                                  replace hbC := Lib.hid (bgo hbC.out hal)
                                  have hR := hNew.sees
                                  clear hNew hal
                                  go_wp2_with fail
                                  refine hKq.out _ _ ?_ (fun hHeld => ?_)
                                  · intro _; (try dsimp only); first | done | trivial
                                  clear hKq Kq
                                  try simp only [Act.put, List.getElem_toArray, List.getElem_cons_succ, List.getElem_cons_zero, List.setIfInBounds_toArray, List.set_cons_zero, List.set_cons_succ]
                                  refine wpAnyJ_ready (rs := [28]) (by kernel_rfl) (by simp) ?_
                                  refine AllReadyJ.cons (o := _) rfl (fun Kq hKq => ?_) ?_
                                  · go_simp
                                    go_at_call 14
                                    refine (rsame_self _ _ _ _ _ _ WX (seesB_of hS2.out (Nat.le_refl _) hbC.out) hR rfl).mono ?_
                                    rintro e WX ⟨rfl, rfl⟩
                                    go_wp2_with fail
                                    refine hKq.out _ _ ?_ (fun hHeld => ?_)
                                    · intro _; (try dsimp only); first | done | trivial
                                    clear hKq Kq
                                    try simp only [Act.put, List.getElem_toArray, List.getElem_cons_succ, List.getElem_cons_zero, List.setIfInBounds_toArray, List.set_cons_zero, List.set_cons_succ]
                                    refine wpAnyJ_take0 (i := 29) (v := ?_) rfl (by kernel_rfl) (by kernel_rfl) (by kernel_rfl) (fun _ _ _ h => h) (by rfl) (Or.inl ⟨by rfl, ?_⟩) (by assumption) ?_
                                    rotate_left 1
                                    · intro w hSw; (try dsimp only at hSw); go_simp <;> (try with_reducible rfl)
                                    try simp only [Act.put, List.getElem_toArray, List.getElem_cons_succ, List.getElem_cons_zero, List.setIfInBounds_toArray, List.set_cons_zero, List.set_cons_succ]
                                    refine wpAnyJ_ready (rs := [30]) (by kernel_rfl) (by simp) ?_
                                    refine AllReadyJ.cons (o := _) rfl (fun Kq hKq => ?_) ?_
                                    · go_simp
                                      refine hKq.out _ _ ?_ (fun hHeld => ?_)
                                      · intro hl; exact absurd hl (by decide)
                                      clear hKq Kq
                                      try simp only [Act.put, List.getElem_toArray, List.getElem_cons_succ, List.getElem_cons_zero, List.setIfInBounds_toArray, List.set_cons_zero, List.set_cons_succ]
                                      refine wpAnyJ_done (by kernel_rfl) ?_ _
                                      go_wp2_with fail
                                      go_ret
                                      exact ⟨rfl, bgo hbzT.out hbC.out⟩
                                    exact AllReadyJ.nil
                                  exact AllReadyJ.nil
                                exact AllReadyJ.nil
                              exact AllReadyJ.nil
                            refine AllReadyJ.cons (o := _) rfl (fun Kq hKq => ?_) ?_
                            · go_simp
                              go_at_call 13
                              refine (rjoin_any _ _ _ WX hLL (Nat.le_refl _) (by rw [hf2.out]; have := hfl2.out; omega)).mono ?_
                              rintro e WX ⟨vQ, rfl, hNew, hal⟩
                              rw [hf2.out] at hNew
                              obtain ⟨AQhJ, cQhJ, rfl, -, -⟩ := hNew.sees.mk_
                              replace hLL := (hLL.below hal).more (hal).size
                              replace hbC := Lib.hid (bgo hbC.out hal)
                              have hJ := hNew.sees
                              clear hNew hal
                              go_wp2_with fail
                              refine hKq.out _ _ ?_ (fun hHeld => ?_)
                              · intro _; (try dsimp only); first | done | trivial
                              clear hKq Kq
                              try simp only [Act.put, List.getElem_toArray, List.getElem_cons_succ, List.getElem_cons_zero, List.setIfInBounds_toArray, List.set_cons_zero, List.set_cons_succ]
                              refine wpAnyJ_ready (rs := [20, 27]) (by kernel_rfl) (by simp) ?_
                              refine AllReadyJ.cons (o := _) rfl (fun Kq hKq => ?_) ?_
                              · go_simp
                                refine hKq.out _ _ ?_ (fun hHeld => ?_)
                                · intro _; (try dsimp only); first | done | trivial
                                clear hKq Kq
                                try simp only [Act.put, List.getElem_toArray, List.getElem_cons_succ, List.getElem_cons_zero, List.setIfInBounds_toArray, List.set_cons_zero, List.set_cons_succ]
                                refine wpAnyJ_ready (rs := [27]) (by kernel_rfl) (by simp) ?_
                                refine AllReadyJ.cons (o := _) rfl (fun Kq hKq => ?_) ?_
                                · go_simp
                                  go_at_call 12
                                  refine (mac_any _ _ _ key _ WX (seesB_of hkeyT.out (Nat.le_refl _) hbC.out) hJ (Nat.le_refl _) hk64.out hfl2.out).mono ?_
                                  rintro e WX ⟨vQ, rfl, hNew, hal⟩
                                  obtain ⟨AQhR, cQhR, rfl, -, -⟩ := hNew.sees.mk_
                                  replace hJ := seesB_of hJ (Nat.le_refl _) hal
                                  replace hbC := Lib.hid (bgo hbC.out hal)
                                  have hR := hNew.sees
                                  clear hNew hal
                                  go_wp2_with fail
                                  refine hKq.out _ _ ?_ (fun hHeld => ?_)
                                  · intro _; (try dsimp only); first | done | trivial
                                  clear hKq Kq
                                  try simp only [Act.put, List.getElem_toArray, List.getElem_cons_succ, List.getElem_cons_zero, List.setIfInBounds_toArray, List.set_cons_zero, List.set_cons_succ]
                                  refine wpAnyJ_ready (rs := [28]) (by kernel_rfl) (by simp) ?_
                                  refine AllReadyJ.cons (o := _) rfl (fun Kq hKq => ?_) ?_
                                  · go_simp
                                    go_at_call 14
                                    refine (rsame_self _ _ _ _ _ _ WX (seesB_of hS2.out (Nat.le_refl _) hbC.out) hR rfl).mono ?_
                                    rintro e WX ⟨rfl, rfl⟩
                                    go_wp2_with fail
                                    refine hKq.out _ _ ?_ (fun hHeld => ?_)
                                    · intro _; (try dsimp only); first | done | trivial
                                    clear hKq Kq
                                    try simp only [Act.put, List.getElem_toArray, List.getElem_cons_succ, List.getElem_cons_zero, List.setIfInBounds_toArray, List.set_cons_zero, List.set_cons_succ]
                                    refine wpAnyJ_take0 (i := 29) (v := ?_) rfl (by kernel_rfl) (by kernel_rfl) (by kernel_rfl) (fun _ _ _ h => h) (by rfl) (Or.inl ⟨by rfl, ?_⟩) (by assumption) ?_
                                    rotate_left 1
                                    · intro w hSw; (try dsimp only at hSw); go_simp <;> (try with_reducible rfl)
                                    try simp only [Act.put, List.getElem_toArray, List.getElem_cons_succ, List.getElem_cons_zero, List.setIfInBounds_toArray, List.set_cons_zero, List.set_cons_succ]
                                    refine wpAnyJ_ready (rs := [30]) (by kernel_rfl) (by simp) ?_
                                    refine AllReadyJ.cons (o := _) rfl (fun Kq hKq => ?_) ?_
                                    · go_simp
                                      refine hKq.out _ _ ?_ (fun hHeld => ?_)
                                      · intro hl; exact absurd hl (by decide)
                                      clear hKq Kq
                                      try simp only [Act.put, List.getElem_toArray, List.getElem_cons_succ, List.getElem_cons_zero, List.setIfInBounds_toArray, List.set_cons_zero, List.set_cons_succ]
                                      refine wpAnyJ_done (by kernel_rfl) ?_ _
                                      go_wp2_with fail
                                      go_ret
                                      exact ⟨rfl, bgo hbzT.out hbC.out⟩
                                    exact AllReadyJ.nil
                                  exact AllReadyJ.nil
                                exact AllReadyJ.nil
                              refine AllReadyJ.cons (o := _) rfl (fun Kq hKq => ?_) ?_
                              · go_simp
                                go_at_call 12
                                refine (mac_any _ _ _ key _ WX (seesB_of hkeyT.out (Nat.le_refl _) hbC.out) hJ (Nat.le_refl _) hk64.out hfl2.out).mono ?_
                                rintro e WX ⟨vQ, rfl, hNew, hal⟩
                                obtain ⟨AQhR, cQhR, rfl, -, -⟩ := hNew.sees.mk_
                                replace hJ := seesB_of hJ (Nat.le_refl _) hal
                                replace hbC := Lib.hid (bgo hbC.out hal)
                                have hR := hNew.sees
                                clear hNew hal
                                go_wp2_with fail
                                refine hKq.out _ _ ?_ (fun hHeld => ?_)
                                · intro _; (try dsimp only); first | done | trivial
                                clear hKq Kq
                                try simp only [Act.put, List.getElem_toArray, List.getElem_cons_succ, List.getElem_cons_zero, List.setIfInBounds_toArray, List.set_cons_zero, List.set_cons_succ]
                                refine wpAnyJ_ready (rs := [20]) (by kernel_rfl) (by simp) ?_
                                refine AllReadyJ.cons (o := _) rfl (fun Kq hKq => ?_) ?_
                                · go_simp
                                  refine hKq.out _ _ ?_ (fun hHeld => ?_)
                                  · intro _; (try dsimp only); first | done | trivial
                                  clear hKq Kq
                                  try simp only [Act.put, List.getElem_toArray, List.getElem_cons_succ, List.getElem_cons_zero, List.setIfInBounds_toArray, List.set_cons_zero, List.set_cons_succ]
                                  refine wpAnyJ_ready (rs := [28]) (by kernel_rfl) (by simp) ?_
                                  refine AllReadyJ.cons (o := _) rfl (fun Kq hKq => ?_) ?_
                                  · go_simp
                                    go_at_call 14
                                    refine (rsame_self _ _ _ _ _ _ WX (seesB_of hS2.out (Nat.le_refl _) hbC.out) hR rfl).mono ?_
                                    rintro e WX ⟨rfl, rfl⟩
                                    go_wp2_with fail
                                    refine hKq.out _ _ ?_ (fun hHeld => ?_)
                                    · intro _; (try dsimp only); first | done | trivial
                                    clear hKq Kq
                                    try simp only [Act.put, List.getElem_toArray, List.getElem_cons_succ, List.getElem_cons_zero, List.setIfInBounds_toArray, List.set_cons_zero, List.set_cons_succ]
                                    refine wpAnyJ_take0 (i := 29) (v := ?_) rfl (by kernel_rfl) (by kernel_rfl) (by kernel_rfl) (fun _ _ _ h => h) (by rfl) (Or.inl ⟨by rfl, ?_⟩) (by assumption) ?_
                                    rotate_left 1
                                    · intro w hSw; (try dsimp only at hSw); go_simp <;> (try with_reducible rfl)
                                    try simp only [Act.put, List.getElem_toArray, List.getElem_cons_succ, List.getElem_cons_zero, List.setIfInBounds_toArray, List.set_cons_zero, List.set_cons_succ]
                                    refine wpAnyJ_ready (rs := [30]) (by kernel_rfl) (by simp) ?_
                                    refine AllReadyJ.cons (o := _) rfl (fun Kq hKq => ?_) ?_
                                    · go_simp
                                      refine hKq.out _ _ ?_ (fun hHeld => ?_)
                                      · intro hl; exact absurd hl (by decide)
                                      clear hKq Kq
                                      try simp only [Act.put, List.getElem_toArray, List.getElem_cons_succ, List.getElem_cons_zero, List.setIfInBounds_toArray, List.set_cons_zero, List.set_cons_succ]
                                      refine wpAnyJ_done (by kernel_rfl) ?_ _
                                      go_wp2_with fail
                                      go_ret
                                      exact ⟨rfl, bgo hbzT.out hbC.out⟩
                                    exact AllReadyJ.nil
                                  exact AllReadyJ.nil
                                exact AllReadyJ.nil
                              exact AllReadyJ.nil
                            exact AllReadyJ.nil
                          exact AllReadyJ.nil
                        exact AllReadyJ.nil
                      exact AllReadyJ.nil
                    exact AllReadyJ.nil
                  exact AllReadyJ.nil
                exact AllReadyJ.nil
              exact AllReadyJ.nil
            exact AllReadyJ.nil
          refine AllReadyJ.cons (o := _) rfl (fun Kq hKq => ?_) ?_
          · go_simp
            have hLL := seesL_lit WX 22 (vs := [.slice (some ⟨g2, 0, none⟩) 64 64, .slice A7 32 c7]) (ls := [M2, X]) ⟨seesB_of houT.out (Nat.le_refl _) hbC.out, seesB_of hXT.out (Nat.le_refl _) hbC.out, trivial⟩ (by simp [maxLen])
            have hal := balloc WX (.cells #[.slice (some ⟨g2, 0, none⟩) 64 64, .slice A7 32 c7] 22)
            change SeesL (WX.alloc (.cells #[.slice (some ⟨g2, 0, none⟩) 64 64, .slice A7 32 c7] 22)) (WX.alloc (.cells #[.slice (some ⟨g2, 0, none⟩) 64 64, .slice A7 32 c7] 22)).heap.size (.slice (some ⟨WX.heap.size, 0, none⟩) 2 2) _ at hLL
            replace hbC := Lib.hid (bgo hbC.out hal)
            clear hal
            generalize WX.heap.size = gL at hLL ⊢
            generalize WX.alloc (.cells #[.slice (some ⟨g2, 0, none⟩) 64 64, .slice A7 32 c7] 22) = WX at *
            refine hKq.out _ _ ?_ (fun hHeld => ?_)
            · intro _; (try dsimp only); first | done | trivial
            clear hKq Kq
            try simp only [Act.put, List.getElem_toArray, List.getElem_cons_succ, List.getElem_cons_zero, List.setIfInBounds_toArray, List.set_cons_zero, List.set_cons_succ]
            refine wpAnyJ_ready (rs := [4]) (by kernel_rfl) (by simp) ?_
            refine AllReadyJ.cons (o := _) rfl (fun Kq hKq => ?_) ?_
            · go_simp
              go_at_call 12
              refine (mac_any _ _ _ key info WX (seesB_of hkeyT.out (Nat.le_refl _) hbC.out) (seesB_of hinfT.out (Nat.le_refl _) hbC.out) (Nat.le_refl _) hk64.out (by omega)).mono ?_
              rintro e WX ⟨vQ, rfl, hNew, hal⟩
              obtain ⟨AQhR, cQhR, rfl, -, -⟩ := hNew.sees.mk_
              replace hLL := (hLL.below hal).more (hal).size
              replace hbC := Lib.hid (bgo hbC.out hal)
              have hR := hNew.sees
              clear hNew hal
              go_wp2_with fail
              refine hKq.out _ _ ?_ (fun hHeld => ?_)
              · intro _; (try dsimp only); first | done | trivial
              clear hKq Kq
              try simp only [Act.put, List.getElem_toArray, List.getElem_cons_succ, List.getElem_cons_zero, List.setIfInBounds_toArray, List.set_cons_zero, List.set_cons_succ]
              refine wpAnyJ_ready (rs := [8]) (by kernel_rfl) (by simp) ?_
              refine AllReadyJ.cons (o := _) rfl (fun Kq hKq => ?_) ?_
              · go_simp
                go_at_call 13
                refine (rjoin_any _ _ _ WX hLL (Nat.le_refl _) (by rw [hf1.out]; have := hfl1.out; omega)).mono ?_
                rintro e WX ⟨vQ, rfl, hNew, hal⟩
                rw [hf1.out] at hNew
                obtain ⟨AQhJ, cQhJ, rfl, -, -⟩ := hNew.sees.mk_
                replace hR := seesB_of hR (Nat.le_refl _) hal
                replace hLL := (hLL.below hal).more (hal).size
                replace hbC := Lib.hid (bgo hbC.out hal)
                have hJ := hNew.sees
                clear hNew hal
                go_wp2_with fail
                refine hKq.out _ _ ?_ (fun hHeld => ?_)
                · intro _; (try dsimp only); first | done | trivial
                clear hKq Kq
                try simp only [Act.put, List.getElem_toArray, List.getElem_cons_succ, List.getElem_cons_zero, List.setIfInBounds_toArray, List.set_cons_zero, List.set_cons_succ]
                refine wpAnyJ_ready (rs := [9]) (by kernel_rfl) (by simp) ?_
                refine AllReadyJ.cons (o := _) rfl (fun Kq hKq => ?_) ?_
                · go_simp
                  go_at_call 15
                  refine (sum_any _ _ _ WX hJ (Nat.le_refl _) (by have := hfl1.out; omega)).mono ?_
                  rintro e WX ⟨vQ, rfl, hNew, hal⟩
                  obtain ⟨AQhS, cQhS, rfl, -, -⟩ := hNew.sees.mk_
                  replace hR := seesB_of hR (Nat.le_refl _) hal
                  replace hJ := seesB_of hJ (Nat.le_refl _) hal
                  replace hbC := Lib.hid (bgo hbC.out hal)
                  have hS := hNew.sees
                  clear hNew hal
                  go_wp2_with fail
                  refine hKq.out _ _ ?_ (fun hHeld => ?_)
                  · intro _; (try dsimp only); first | done | trivial
                  clear hKq Kq
                  try simp only [Act.put, List.getElem_toArray, List.getElem_cons_succ, List.getElem_cons_zero, List.setIfInBounds_toArray, List.set_cons_zero, List.set_cons_succ]
                  refine wpAnyJ_ready (rs := [10]) (by kernel_rfl) (by simp) ?_
                  refine AllReadyJ.cons (o := _) rfl (fun Kq hKq => ?_) ?_
                  · go_simp
                    go_at_call 14
                    refine (rsame_self _ _ _ _ _ _ WX hR hS hG1.out).mono ?_
                    rintro e WX ⟨rfl, rfl⟩
                    go_wp2_with fail
                    refine hKq.out _ _ ?_ (fun hHeld => ?_)
                    · intro _; (try dsimp only); first | done | trivial
                    clear hKq Kq
                    try simp only [Act.put, List.getElem_toArray, List.getElem_cons_succ, List.getElem_cons_zero, List.setIfInBounds_toArray, List.set_cons_zero, List.set_cons_succ]
                    refine wpAnyJ_take0 (i := 11) (v := ?_) rfl (by kernel_rfl) (by kernel_rfl) (by kernel_rfl) (fun _ _ _ h => h) (by rfl) (Or.inl ⟨by rfl, ?_⟩) (by assumption) ?_
                    rotate_left 1
                    · intro w hSw; (try dsimp only at hSw); go_simp <;> (try with_reducible rfl)
                    try simp only [Act.put, List.getElem_toArray, List.getElem_cons_succ, List.getElem_cons_zero, List.setIfInBounds_toArray, List.set_cons_zero, List.set_cons_succ]
                    refine wpAnyJ_take0 (i := 12) (v := ?_) rfl (by kernel_rfl) (by kernel_rfl) (by kernel_rfl) (fun _ _ _ h => h) (by rfl) (Or.inl ⟨by rfl, ?_⟩) (by assumption) ?_
                    rotate_left 1
                    · intro w hSw; (try dsimp only at hSw); go_simp <;> (try with_reducible rfl)
                    try simp only [Act.put, List.getElem_toArray, List.getElem_cons_succ, List.getElem_cons_zero, List.setIfInBounds_toArray, List.set_cons_zero, List.set_cons_succ]
                    refine wpAnyJ_take0 (i := 13) (v := ?_) rfl (by kernel_rfl) (by kernel_rfl) (by kernel_rfl) (fun _ _ _ h => h) (by rfl) (Or.inl ⟨by rfl, ?_⟩) (by assumption) ?_
                    rotate_left 1
                    · intro w hSw; (try dsimp only at hSw); go_simp <;> (try with_reducible rfl)
                    try simp only [Act.put, List.getElem_toArray, List.getElem_cons_succ, List.getElem_cons_zero, List.setIfInBounds_toArray, List.set_cons_zero, List.set_cons_succ]
                    refine wpAnyJ_take0 (i := 15) (v := ?_) rfl (by kernel_rfl) (by kernel_rfl) (by kernel_rfl) (fun _ _ _ h => h) (by rfl) (Or.inl ⟨by rfl, ?_⟩) (by assumption) ?_
                    rotate_left 1
                    · intro w hSw; (try dsimp only at hSw); go_simp <;> (try with_reducible rfl)
                    try simp only [Act.put, List.getElem_toArray, List.getElem_cons_succ, List.getElem_cons_zero, List.setIfInBounds_toArray, List.set_cons_zero, List.set_cons_succ]
                    refine wpAnyJ_ready (rs := [14]) (by kernel_rfl) (by simp) ?_
                    refine AllReadyJ.cons (o := _) rfl (fun Kq hKq => ?_) ?_
                    · go_simp
                      refine hKq.out _ _ ?_ (fun hHeld => ?_)
                      · intro _; (try dsimp only); first | done | trivial
                      clear hKq Kq
                      try simp only [Act.put, List.getElem_toArray, List.getElem_cons_succ, List.getElem_cons_zero, List.setIfInBounds_toArray, List.set_cons_zero, List.set_cons_succ]
                      refine wpAnyJ_ready (rs := [16]) (by kernel_rfl) (by simp) ?_
                      refine AllReadyJ.cons (o := _) rfl (fun Kq hKq => ?_) ?_
                      · go_simp
                        go_at_call 14
                        refine (rsame_self _ _ _ _ _ _ WX (seesB_of hS1.out (Nat.le_refl _) hbC.out) (seesB_of hFT.out (Nat.le_refl _) hbC.out) rfl).mono ?_
                        rintro e WX ⟨rfl, rfl⟩
                        go_wp2_with fail
                        refine hKq.out _ _ ?_ (fun hHeld => ?_)
                        · intro _; (try dsimp only); first | done | trivial
                        clear hKq Kq
                        try simp only [Act.put, List.getElem_toArray, List.getElem_cons_succ, List.getElem_cons_zero, List.setIfInBounds_toArray, List.set_cons_zero, List.set_cons_succ]
                        refine wpAnyJ_take0 (i := 17) (v := ?_) rfl (by kernel_rfl) (by kernel_rfl) (by kernel_rfl) (fun _ _ _ h => h) (by rfl) (Or.inl ⟨by rfl, ?_⟩) (by assumption) ?_
                        rotate_left 1
                        · intro w hSw; (try dsimp only at hSw); go_simp <;> (try with_reducible rfl)
                        try simp only [Act.put, List.getElem_toArray, List.getElem_cons_succ, List.getElem_cons_zero, List.setIfInBounds_toArray, List.set_cons_zero, List.set_cons_succ]
                        refine wpAnyJ_take0 (i := 18) (v := ?_) rfl (by kernel_rfl) (by kernel_rfl) (by kernel_rfl) (fun _ _ _ h => h) (by rfl) (Or.inl ⟨by rfl, ?_⟩) (by assumption) ?_
                        rotate_left 1
                        · intro w hSw; (try dsimp only at hSw); go_simp <;> (try with_reducible rfl)
                        try simp only [Act.put, List.getElem_toArray, List.getElem_cons_succ, List.getElem_cons_zero, List.setIfInBounds_toArray, List.set_cons_zero, List.set_cons_succ]
                        refine wpAnyJ_take0 (i := 19) (v := ?_) rfl (by kernel_rfl) (by kernel_rfl) (by kernel_rfl) (fun _ _ _ h => h) (by rfl) (Or.inl ⟨by rfl, ?_⟩) (by assumption) ?_
                        rotate_left 1
                        · intro w hSw; (try dsimp only at hSw); go_simp <;> (try with_reducible rfl)
                        try simp only [Act.put, List.getElem_toArray, List.getElem_cons_succ, List.getElem_cons_zero, List.setIfInBounds_toArray, List.set_cons_zero, List.set_cons_succ]
                        refine wpAnyJ_take0 (i := 21) (v := ?_) rfl (by kernel_rfl) (by kernel_rfl) (by kernel_rfl) (fun _ _ _ h => h) (by rfl) (Or.inl ⟨by rfl, ?_⟩) (by assumption) ?_
                        rotate_left 1
                        · intro w hSw; (try dsimp only at hSw); go_simp <;> (try with_reducible rfl)
                        try simp only [Act.put, List.getElem_toArray, List.getElem_cons_succ, List.getElem_cons_zero, List.setIfInBounds_toArray, List.set_cons_zero, List.set_cons_succ]
                        refine wpAnyJ_take0 (i := 22) (v := ?_) rfl (by kernel_rfl) (by kernel_rfl) (by kernel_rfl) (fun _ _ _ h => h) (by rfl) (Or.inl ⟨by rfl, ?_⟩) (by assumption) ?_
                        rotate_left 1
                        · intro w hSw; (try dsimp only at hSw); go_simp <;> (try with_reducible rfl)
                        try simp only [Act.put, List.getElem_toArray, List.getElem_cons_succ, List.getElem_cons_zero, List.setIfInBounds_toArray, List.set_cons_zero, List.set_cons_succ]
                        refine wpAnyJ_take0 (i := 23) (v := ?_) rfl (by kernel_rfl) (by kernel_rfl) (by kernel_rfl) (fun _ _ _ h => h) (by rfl) (Or.inl ⟨by rfl, ?_⟩) (by assumption) ?_
                        rotate_left 1
                        · intro w hSw; (try dsimp only at hSw); go_simp <;> (try with_reducible rfl)
                        try simp only [Act.put, List.getElem_toArray, List.getElem_cons_succ, List.getElem_cons_zero, List.setIfInBounds_toArray, List.set_cons_zero, List.set_cons_succ]
                        refine wpAnyJ_ready (rs := [20, 24]) (by kernel_rfl) (by simp) ?_
                        refine AllReadyJ.cons (o := _) rfl (fun Kq hKq => ?_) ?_
                        · go_simp
                          refine hKq.out _ _ ?_ (fun hHeld => ?_)
                          · intro _; (try dsimp only); first | done | trivial
                          clear hKq Kq
                          try simp only [Act.put, List.getElem_toArray, List.getElem_cons_succ, List.getElem_cons_zero, List.setIfInBounds_toArray, List.set_cons_zero, List.set_cons_succ]
                          refine wpAnyJ_ready (rs := [24]) (by kernel_rfl) (by simp) ?_
                          refine AllReadyJ.cons (o := _) rfl (fun Kq hKq => ?_) ?_
                          · go_simp
                            have hT2L := (one_byte WX 2 2 rfl).sees
                            have hal := balloc WX (.cells #[.int .u8 2] 5)
                            replace hbC := Lib.hid (bgo hbC.out hal)
                            clear hal
                            generalize WX.heap.size = gT at hT2L ⊢
                            generalize WX.alloc (.cells #[.int .u8 2] 5) = WX at *
                            refine hKq.out _ _ ?_ (fun hHeld => ?_)
                            · intro _; (try dsimp only); first | done | trivial
                            clear hKq Kq
                            try simp only [Act.put, List.getElem_toArray, List.getElem_cons_succ, List.getElem_cons_zero, List.setIfInBounds_toArray, List.set_cons_zero, List.set_cons_succ]
                            refine wpAnyJ_ready (rs := [25]) (by kernel_rfl) (by simp) ?_
                            refine AllReadyJ.cons (o := _) rfl (fun Kq hKq => ?_) ?_
                            · go_simp
                              have hLL := seesL_lit WX 22 (vs := [.slice A10 32 c10, .slice A info.length c, .slice (some ⟨gT, 0, none⟩) 1 1]) (ls := [F, info, [2]]) ⟨seesB_of hFT.out (Nat.le_refl _) hbC.out, seesB_of hinfT.out (Nat.le_refl _) hbC.out, hT2L, trivial⟩ (by simp [maxLen])
                              have hal := balloc WX (.cells #[.slice A10 32 c10, .slice A info.length c, .slice (some ⟨gT, 0, none⟩) 1 1] 22)
                              change SeesL (WX.alloc (.cells #[.slice A10 32 c10, .slice A info.length c, .slice (some ⟨gT, 0, none⟩) 1 1] 22)) (WX.alloc (.cells #[.slice A10 32 c10, .slice A info.length c, .slice (some ⟨gT, 0, none⟩) 1 1] 22)).heap.size (.slice (some ⟨WX.heap.size, 0, none⟩) 3 3) _ at hLL
                              replace hT2L := seesB_of hT2L (Nat.le_refl _) hal
                              replace hbC := Lib.hid (bgo hbC.out hal)
                              clear hal
                              generalize WX.heap.size = gL at hLL ⊢
                              generalize WX.alloc (.cells #[.slice A10 32 c10, .slice A info.length c, .slice (some ⟨gT, 0, none⟩) 1 1] 22) = WX at *
                              refine hKq.out _ _ ?_ (fun hHeld => ?_)
                              · intro _; (try dsimp only); first | done | trivial
                              clear hKq Kq
                              try simp only [Act.put, List.getElem_toArray, List.getElem_cons_succ, List.getElem_cons_zero, List.setIfInBounds_toArray, List.set_cons_zero, List.set_cons_succ]
                              refine wpAnyJ_ready (rs := [26]) (by kernel_rfl) (by simp) ?_
                              refine AllReadyJ.cons (o := _) rfl (fun Kq hKq => ?_) ?_
                              · go_simp
                                go_at_call 13
                                refine (rjoin_any _ _ _ WX hLL (Nat.le_refl _) (by rw [hf2.out]; have := hfl2.out; omega)).mono ?_
                                rintro e WX ⟨vQ, rfl, hNew, hal⟩
                                rw [hf2.out] at hNew
                                obtain ⟨AQhJ, cQhJ, rfl, -, -⟩ := hNew.sees.mk_
                                replace hLL := (hLL.below hal).more (hal).size
                                replace hbC := Lib.hid (bgo hbC.out hal)
                                have hJ := hNew.sees
                                clear hNew hal
                                go_wp2_with fail
                                refine hKq.out _ _ ?_ (fun hHeld => ?_)
                                · intro _; (try dsimp only); first | done | trivial
                                clear hKq Kq
                                try simp only [Act.put, List.getElem_toArray, List.getElem_cons_succ, List.getElem_cons_zero, List.setIfInBounds_toArray, List.set_cons_zero, List.set_cons_succ]
                                refine wpAnyJ_ready (rs := [27]) (by kernel_rfl) (by simp) ?_
                                refine AllReadyJ.cons (o := _) rfl (fun Kq hKq => ?_) ?_
                                · go_simp
                                  go_at_call 12
                                  refine (mac_any _ _ _ key _ WX (seesB_of hkeyT.out (Nat.le_refl _) hbC.out) hJ (Nat.le_refl _) hk64.out hfl2.out).mono ?_
                                  rintro e WX ⟨vQ, rfl, hNew, hal⟩
                                  obtain ⟨AQhR, cQhR, rfl, -, -⟩ := hNew.sees.mk_
                                  replace hJ := seesB_of hJ (Nat.le_refl _) hal
                                  replace hbC := Lib.hid (bgo hbC.out hal)
                                  have hR := hNew.sees
                                  clear hNew hal
                                  go_wp2_with fail
                                  refine hKq.out _ _ ?_ (fun hHeld => ?_)
                                  · intro _; (try dsimp only); first | done | trivial
                                  clear hKq Kq
                                  try simp only [Act.put, List.getElem_toArray, List.getElem_cons_succ, List.getElem_cons_zero, List.setIfInBounds_toArray, List.set_cons_zero, List.set_cons_succ]
                                  refine wpAnyJ_ready (rs := [28]) (by kernel_rfl) (by simp) ?_
                                  refine AllReadyJ.cons (o := _) rfl (fun Kq hKq => ?_) ?_
                                  · go_simp
                                    go_at_call 14
                                    refine (rsame_self _ _ _ _ _ _ WX (seesB_of hS2.out (Nat.le_refl _) hbC.out) hR rfl).mono ?_
                                    rintro e WX ⟨rfl, rfl⟩
                                    go_wp2_with fail
                                    refine hKq.out _ _ ?_ (fun hHeld => ?_)
                                    · intro _; (try dsimp only); first | done | trivial
                                    clear hKq Kq
                                    try simp only [Act.put, List.getElem_toArray, List.getElem_cons_succ, List.getElem_cons_zero, List.setIfInBounds_toArray, List.set_cons_zero, List.set_cons_succ]
                                    refine wpAnyJ_take0 (i := 29) (v := ?_) rfl (by kernel_rfl) (by kernel_rfl) (by kernel_rfl) (fun _ _ _ h => h) (by rfl) (Or.inl ⟨by rfl, ?_⟩) (by assumption) ?_
                                    rotate_left 1
                                    · intro w hSw; (try dsimp only at hSw); go_simp <;> (try with_reducible rfl)
                                    try simp only [Act.put, List.getElem_toArray, List.getElem_cons_succ, List.getElem_cons_zero, List.setIfInBounds_toArray, List.set_cons_zero, List.set_cons_succ]
                                    refine wpAnyJ_ready (rs := [30]) (by kernel_rfl) (by simp) ?_
                                    refine AllReadyJ.cons (o := _) rfl (fun Kq hKq => ?_) ?_
                                    · go_simp
                                      refine hKq.out _ _ ?_ (fun hHeld => ?_)
                                      · intro hl; exact absurd hl (by decide)
                                      clear hKq Kq
                                      try simp only [Act.put, List.getElem_toArray, List.getElem_cons_succ, List.getElem_cons_zero, List.setIfInBounds_toArray, List.set_cons_zero, List.set_cons_succ]
                                      refine wpAnyJ_done (by kernel_rfl) ?_ _
                                      go_wp2_with fail
                                      go_ret
                                      exact ⟨rfl, bgo hbzT.out hbC.out⟩
                                    exact AllReadyJ.nil
                                  exact AllReadyJ.nil
                                exact AllReadyJ.nil
                              exact AllReadyJ.nil
                            exact AllReadyJ.nil
                          exact AllReadyJ.nil
                        refine AllReadyJ.cons (o := _) rfl (fun Kq hKq => ?_) ?_
                        · go_simp
                          have hT2L := (one_byte WX 2 2 rfl).sees
                          have hal := balloc WX (.cells #[.int .u8 2] 5)
                          replace hbC := Lib.hid (bgo hbC.out hal)
                          clear hal
                          generalize WX.heap.size = gT at hT2L ⊢
                          generalize WX.alloc (.cells #[.int .u8 2] 5) = WX at *
                          refine hKq.out _ _ ?_ (fun hHeld => ?_)
                          · intro _; (try dsimp only); first | done | trivial
                          clear hKq Kq
                          try simp only [Act.put, List.getElem_toArray, List.getElem_cons_succ, List.getElem_cons_zero, List.setIfInBounds_toArray, List.set_cons_zero, List.set_cons_succ]
                          refine wpAnyJ_ready (rs := [20, 25]) (by kernel_rfl) (by simp) ?_
                          refine AllReadyJ.cons (o := _) rfl (fun Kq hKq => ?_) ?_
                          · go_simp
                            refine hKq.out _ _ ?_ (fun hHeld => ?_)
                            · intro _; (try dsimp only); first | done | trivial
                            clear hKq Kq
                            try simp only [Act.put, List.getElem_toArray, List.getElem_cons_succ, List.getElem_cons_zero, List.setIfInBounds_toArray, List.set_cons_zero, List.set_cons_succ]
                            refine wpAnyJ_ready (rs := [25]) (by kernel_rfl) (by simp) ?_
                            refine AllReadyJ.cons (o := _) rfl (fun Kq hKq => ?_) ?_
                            · go_simp
                              have hLL := seesL_lit WX 22 (vs := [.slice A10 32 c10, .slice A info.length c, .slice (some ⟨gT, 0, none⟩) 1 1]) (ls := [F, info, [2]]) ⟨seesB_of hFT.out (Nat.le_refl _) hbC.out, seesB_of hinfT.out (Nat.le_refl _) hbC.out, hT2L, trivial⟩ (by simp [maxLen])
                              have hal := balloc WX (.cells #[.slice A10 32 c10, .slice A info.length c, .slice (some ⟨gT, 0, none⟩) 1 1] 22)
                              change SeesL (WX.alloc (.cells #[.slice A10 32 c10, .slice A info.length c, .slice (some ⟨gT, 0, none⟩) 1 1] 22)) (WX.alloc (.cells #[.slice A10 32 c10, .slice A info.length c, .slice (some ⟨gT, 0, none⟩) 1 1] 22)).heap.size (.slice (some ⟨WX.heap.size, 0, none⟩) 3 3) _ at hLL
                              replace hT2L := seesB_of hT2L (Nat.le_refl _) hal
                              replace hbC := Lib.hid (bgo hbC.out hal)
                              clear hal
                              generalize WX.heap.size = gL at hLL ⊢
                              generalize WX.alloc (.cells #[.slice A10 32 c10, .slice A info.length c, .slice (some ⟨gT, 0, none⟩) 1 1] 22) = WX at *
                              refine hKq.out _ _ ?_ (fun hHeld => ?_)
                              · intro _; (try dsimp only); first | done | trivial
                              clear hKq Kq
                              try simp only [Act.put, List.getElem_toArray, List.getElem_cons_succ, List.getElem_cons_zero, List.setIfInBounds_toArray, List.set_cons_zero, List.set_cons_succ]
                              refine wpAnyJ_ready (rs := [26]) (by kernel_rfl) (by simp) ?_
                              refine AllReadyJ.cons (o := _) rfl (fun Kq hKq => ?_) ?_
                              · go_simp
                                go_at_call 13
                                refine (rjoin_any _ _ _ WX hLL (Nat.le_refl _) (by rw [hf2.out]; have := hfl2.out; omega)).mono ?_
                                rintro e WX ⟨vQ, rfl, hNew, hal⟩
                                rw [hf2.out] at hNew
                                obtain ⟨AQhJ, cQhJ, rfl, -, -⟩ := hNew.sees.mk_
                                replace hLL := (hLL.below hal).more (hal).size
                                replace hbC := Lib.hid (bgo hbC.out hal)
                                have hJ := hNew.sees
                                clear hNew hal
                                go_wp2_with fail
                                refine hKq.out _ _ ?_ (fun hHeld => ?_)
                                · intro _; (try dsimp only); first | done | trivial
                                clear hKq Kq
                                try simp only [Act.put, List.getElem_toArray, List.getElem_cons_succ, List.getElem_cons_zero, List.setIfInBounds_toArray, List.set_cons_zero, List.set_cons_succ]
                                refine wpAnyJ_ready (rs := [27]) (by kernel_rfl) (by simp) ?_
                                refine AllReadyJ.cons (o := _) rfl (fun Kq hKq => ?_) ?_
                                · go_simp
                                  go_at_call 12
                                  refine (mac_any _ _ _ key _ WX (seesB_of hkeyT.out (Nat.le_refl _) hbC.out) hJ (Nat.le_refl _) hk64.out hfl2.out).mono ?_
                                  rintro e WX ⟨vQ, rfl, hNew, hal⟩
                                  obtain ⟨AQhR, cQhR, rfl, -, -⟩ := hNew.sees.mk_
                                  replace hJ := seesB_of hJ (Nat.le_refl _) hal
                                  replace hbC := Lib.hid (bgo hbC.out hal)
                                  have hR := hNew.sees
                                  clear hNew hal
                                  go_wp2_with fail
                                  refine hKq.out _ _ ?_ (fun hHeld => ?_)
                                  · intro _; (try dsimp only); first | done | trivial
                                  clear hKq Kq
                                  try simp only [Act.put, List.getElem_toArray, List.getElem_cons_succ, List.getElem_cons_zero, List.setIfInBounds_toArray, List.set_cons_zero, List.set_cons_succ]
                                  refine wpAnyJ_ready (rs := [28]) (by kernel_rfl) (by simp) ?_
                                  refine AllReadyJ.cons (o := _) rfl (fun Kq hKq => ?_) ?_
                                  · go_simp
                                    go_at_call 14
                                    refine (rsame_self _ _ _ _ _ _ WX (seesB_of hS2.out (Nat.le_refl _) hbC.out) hR rfl).mono ?_
                                    rintro e WX ⟨rfl, rfl⟩
                                    go_wp2_with fail
                                    refine hKq.out _ _ ?_ (fun hHeld => ?_)
                                    · intro _; (try dsimp only); first | done | trivial
                                    clear hKq Kq
                                    try simp only [Act.put, List.getElem_toArray, List.getElem_cons_succ, List.getElem_cons_zero, List.setIfInBounds_toArray, List.set_cons_zero, List.set_cons_succ]
                                    refine wpAnyJ_take0 (i := 29) (v := ?_) rfl (by kernel_rfl) (by kernel_rfl) (by kernel_rfl) (fun _ _ _ h => h) (by rfl) (Or.inl ⟨by rfl, ?_⟩) (by assumption) ?_
                                    rotate_left 1
                                    · intro w hSw; (try dsimp only at hSw); go_simp <;> (try with_reducible rfl)
                                    try simp only [Act.put, List.getElem_toArray, List.getElem_cons_succ, List.getElem_cons_zero, List.setIfInBounds_toArray, List.set_cons_zero, List.set_cons_succ]
                                    refine wpAnyJ_ready (rs := [30]) (by kernel_rfl) (by simp) ?_
                                    refine AllReadyJ.cons (o := _) rfl (fun Kq hKq => ?_) ?_
                                    · go_simp
                                      refine hKq.out _ _ ?_ (fun hHeld => ?_)
                                      · intro hl; exact absurd hl (by decide)
                                      clear hKq Kq
                                      try simp only [Act.put, List.getElem_toArray, List.getElem_cons_succ, List.getElem_cons_zero, List.setIfInBounds_toArray, List.set_cons_zero, List.set_cons_succ]
                                      refine wpAnyJ_done (by kernel_rfl) ?_ _
                                      go_wp2_with fail
                                      go_ret
                                      exact ⟨rfl, bgo hbzT.out hbC.out⟩
                                    exact AllReadyJ.nil
                                  exact AllReadyJ.nil
                                exact AllReadyJ.nil
                              exact AllReadyJ.nil
                            exact AllReadyJ.nil
                          refine AllReadyJ.cons (o := _) rfl (fun Kq hKq => ?_) ?_
                          · go_simp
                            have hLL := seesL_lit WX 22 (vs := [.slice A10 32 c10, .slice A info.length c, .slice (some ⟨gT, 0, none⟩) 1 1]) (ls := [F, info, [2]]) ⟨seesB_of hFT.out (Nat.le_refl _) hbC.out, seesB_of hinfT.out (Nat.le_refl _) hbC.out, hT2L, trivial⟩ (by simp [maxLen])
                            have hal := balloc WX (.cells #[.slice A10 32 c10, .slice A info.length c, .slice (some ⟨gT, 0, none⟩) 1 1] 22)
                            change SeesL (WX.alloc (.cells #[.slice A10 32 c10, .slice A info.length c, .slice (some ⟨gT, 0, none⟩) 1 1] 22)) (WX.alloc (.cells #[.slice A10 32 c10, .slice A info.length c, .slice (some ⟨gT, 0, none⟩) 1 1] 22)).heap.size (.slice (some ⟨WX.heap.size, 0, none⟩) 3 3) _ at hLL
                            replace hT2L := seesB_of hT2L (Nat.le_refl _) hal
                            replace hbC := Lib.hid (bgo hbC.out hal)
                            clear hal
                            generalize WX.heap.size = gL at hLL ⊢
                            generalize WX.alloc (.cells #[.slice A10 32 c10, .slice A info.length c, .slice (some ⟨gT, 0, none⟩) 1 1] 22) = WX at *
                            refine hKq.out _ _ ?_ (fun hHeld => ?_)
                            · intro _; (try dsimp only); first | done | trivial
                            clear hKq Kq
                            try simp only [Act.put, List.getElem_toArray, List.getElem_cons_succ, List.getElem_cons_zero, List.setIfInBounds_toArray, List.set_cons_zero, List.set_cons_succ]
                            refine wpAnyJ_ready (rs := [20, 26]) (by kernel_rfl) (by simp) ?_
                            refine AllReadyJ.cons (o := _) rfl (fun Kq hKq => ?_) ?_
                            · go_simp
                              refine hKq.out _ _ ?_ (fun hHeld => ?_)
                              · intro _; (try dsimp only); first | done | trivial
                              clear hKq Kq
                              try simp only [Act.put, List.getElem_toArray, List.getElem_cons_succ, List.getElem_cons_zero, List.setIfInBounds_toArray, List.set_cons_zero, List.set_cons_succ]
                              refine wpAnyJ_ready (rs := [26]) (by kernel_rfl) (by simp) ?_
                              refine AllReadyJ.cons (o := _) rfl (fun Kq hKq => ?_) ?_
                              · go_simp
                                go_at_call 13
                                refine (rjoin_any _ _ _ WX hLL (Nat.le_refl _) (by rw [hf2.out]; have := hfl2.out; omega)).mono ?_
                                rintro e WX ⟨vQ, rfl, hNew, hal⟩
                                rw [hf2.out] at hNew
                                obtain ⟨AQhJ, cQhJ, rfl, -, -⟩ := hNew.sees.mk_
                                replace hLL := (hLL.below hal).more (hal).size
                                replace hbC := Lib.hid (bgo hbC.out hal)
                                have hJ := hNew.sees
                                clear hNew hal
                                go_wp2_with fail
                                refine hKq.out _ _ ?_ (fun hHeld => ?_)
                                · intro _; (try dsimp only); first | done | trivial
                                clear hKq Kq
                                try simp only [Act.put, List.getElem_toArray, List.getElem_cons_succ, List.getElem_cons_zero, List.setIfInBounds_toArray, List.set_cons_zero, List.set_cons_succ]
                                refine wpAnyJ_ready (rs := [27]) (by kernel_rfl) (by simp) ?_
                                refine AllReadyJ.cons (o := _) rfl (fun Kq hKq => ?_) ?_
                                · go_simp
                                  go_at_call 12
                                  refine (mac_any _ _ _ key _ WX (seesB_of hkeyT.out (Nat.le_refl _) hbC.out) hJ (Nat.le_refl _) hk64.out hfl2.out).mono ?_
                                  rintro e WX ⟨vQ, rfl, hNew, hal⟩
                                  obtain ⟨AQhR, cQhR, rfl, -, -⟩ := hNew.sees.mk_
                                  replace hJ := seesB_of hJ (Nat.le_refl _) hal
                                  replace hbC := Lib.hid (bgo hbC.out hal)
                                  have hR := hNew.sees
                                  clear hNew hal
                                  go_wp2_with fail
                                  refine hKq.out _ _ ?_ (fun hHeld => ?_)
                                  · intro _; (try dsimp only); first | done | trivial
                                  clear hKq Kq
                                  try simp only [Act.put, List.getElem_toArray, List.getElem_cons_succ, List.getElem_cons_zero, List.setIfInBounds_toArray, List.set_cons_zero, List.set_cons_succ]
                                  refine wpAnyJ_ready (rs := [28]) (by kernel_rfl) (by simp) ?_
                                  refine AllReadyJ.cons (o := _) rfl (fun Kq hKq => ?_) ?_
                                  · go_simp
                                    go_at_call 14
                                    refine (rsame_self _ _ _ _ _ _ WX (seesB_of hS2.out (Nat.le_refl _) hbC.out) hR rfl).mono ?_
                                    rintro e WX ⟨rfl, rfl⟩
                                    go_wp2_with fail
                                    refine hKq.out _ _ ?_ (fun hHeld => ?_)
                                    · intro _; (try dsimp only); first | done | trivial
                                    clear hKq Kq
                                    try simp only [Act.put, List.getElem_toArray, List.getElem_cons_succ, List.getElem_cons_zero, List.setIfInBounds_toArray, List.set_cons_zero, List.set_cons_succ]
                                    refine wpAnyJ_take0 (i := 29) (v := ?_) rfl (by kernel_rfl) (by kernel_rfl) (by kernel_rfl) (fun _ _ _ h => h) (by rfl) (Or.inl ⟨by rfl, ?_⟩) (by assumption) ?_
                                    rotate_left 1
                                    · intro w hSw; (try dsimp only at hSw); go_simp <;> (try with_reducible rfl)
                                    try simp only [Act.put, List.getElem_toArray, List.getElem_cons_succ, List.getElem_cons_zero, List.setIfInBounds_toArray, List.set_cons_zero, List.set_cons_succ]
                                    refine wpAnyJ_ready (rs := [30]) (by kernel_rfl) (by simp) ?_
                                    refine AllReadyJ.cons (o := _) rfl (fun Kq hKq => ?_) ?_
                                    · go_simp
                                      refine hKq.out _ _ ?_ (fun hHeld => ?_)
                                      · intro hl; exact absurd hl (by decide)
                                      clear hKq Kq
                                      try simp only [Act.put, List.getElem_toArray, List.getElem_cons_succ, List.getElem_cons_zero, List.setIfInBounds_toArray, List.set_cons_zero, List.set_cons_succ]
                                      refine wpAnyJ_done (by kernel_rfl) ?_ _
                                      go_wp2_with fail
                                      go_ret
                                      exact ⟨rfl, bgo hbzT.out hbC.out⟩
                                    exact AllReadyJ.nil
                                  exact AllReadyJ.nil
                                exact AllReadyJ.nil
                              exact AllReadyJ.nil
                            refine AllReadyJ.cons (o := _) rfl (fun Kq hKq => ?_) ?_
                            · go_simp
                              go_at_call 13
                              refine (rjoin_any _ _ _ WX hLL (Nat.le_refl _) (by rw [hf2.out]; have := hfl2.out; omega)).mono ?_
                              rintro e WX ⟨vQ, rfl, hNew, hal⟩
                              rw [hf2.out] at hNew
                              obtain ⟨AQhJ, cQhJ, rfl, -, -⟩ := hNew.sees.mk_
                              replace hLL := (hLL.below hal).more (hal).size
                              replace hbC := Lib.hid (bgo hbC.out hal)
                              have hJ := hNew.sees
                              clear hNew hal
                              go_wp2_with fail
                              refine hKq.out _ _ ?_ (fun hHeld => ?_)
                              · intro _; (try dsimp only); first | done | trivial
                              clear hKq Kq
                              try simp only [Act.put, List.getElem_toArray, List.getElem_cons_succ, List.getElem_cons_zero, List.setIfInBounds_toArray, List.set_cons_zero, List.set_cons_succ]
                              refine wpAnyJ_ready (rs := [20, 27]) (by kernel_rfl) (by simp) ?_
                              refine AllReadyJ.cons (o := _) rfl (fun Kq hKq => ?_) ?_
                              · go_simp
                                refine hKq.out _ _ ?_ (fun hHeld => ?_)
                                · intro _; (try dsimp only); first | done | trivial
                                clear hKq Kq
                                try simp only [Act.put, List.getElem_toArray, List.getElem_cons_succ, List.getElem_cons_zero, List.setIfInBounds_toArray, List.set_cons_zero, List.set_cons_succ]
                                refine wpAnyJ_ready (rs := [27]) (by kernel_rfl) (by simp) ?_
                                refine AllReadyJ.cons (o := _) rfl (fun Kq hKq => ?_) ?_
                                · go_simp
                                  go_at_call 12
                                  refine (mac_any _ _ _ key _ WX (seesB_of hkeyT.out (Nat.le_refl _) hbC.out) hJ (Nat.le_refl _) hk64.out hfl2.out).mono ?_
                                  rintro e WX ⟨vQ, rfl, hNew, hal⟩
                                  obtain ⟨AQhR, cQhR, rfl, -, -⟩ := hNew.sees.mk_
                                  replace hJ := seesB_of hJ (Nat.le_refl _) hal
                                  replace hbC := Lib.hid (bgo hbC.out hal)
                                  have hR := hNew.sees
                                  clear hNew hal
                                  go_wp2_with fail
                                  refine hKq.out _ _ ?_ (fun hHeld => ?_)
                                  · intro _; (try dsimp only); first | done | trivial
                                  clear hKq Kq
                                  try simp only [Act.put, List.getElem_toArray, List.getElem_cons_succ, List.getElem_cons_zero, List.setIfInBounds_toArray, List.set_cons_zero, List.set_cons_succ]
                                  refine wpAnyJ_ready (rs := [28]) (by kernel_rfl) (by simp) ?_
                                  refine AllReadyJ.cons (o := _) rfl (fun Kq hKq => ?_) ?_
                                  · go_simp
                                    go_at_call 14
                                    refine (rsame_self _ _ _ _ _ _ WX (seesB_of hS2.out (Nat.le_refl _) hbC.out) hR rfl).mono ?_
                                    rintro e WX ⟨rfl, rfl⟩
                                    go_wp2_with fail
                                    refine hKq.out _ _ ?_ (fun hHeld => ?_)
                                    · intro _; (try dsimp only); first | done | trivial
                                    clear hKq Kq
                                    try simp only [Act.put, List.getElem_toArray, List.getElem_cons_succ, List.getElem_cons_zero, List.setIfInBounds_toArray, List.set_cons_zero, List.set_cons_succ]
                                    refine wpAnyJ_take0 (i := 29) (v := ?_) rfl (by kernel_rfl) (by kernel_rfl) (by kernel_rfl) (fun _ _ _ h => h) (by rfl) (Or.inl ⟨by rfl, ?_⟩) (by assumption) ?_
                                    rotate_left 1
                                    · intro w hSw; (try dsimp only at hSw); go_simp <;> (try with_reducible rfl)
                                    try simp only [Act.put, List.getElem_toArray, List.getElem_cons_succ, List.getElem_cons_zero, List.setIfInBounds_toArray, List.set_cons_zero, List.set_cons_succ]
                                    refine wpAnyJ_ready (rs := [30]) (by kernel_rfl) (by simp) ?_
                                    refine AllReadyJ.cons (o := _) rfl (fun Kq hKq => ?_) ?_
                                    · go_simp
                                      refine hKq.out _ _ ?_ (fun hHeld => ?_)
                                      · intro hl; exact absurd hl (by decide)
                                      clear hKq Kq
                                      try simp only [Act.put, List.getElem_toArray, List.getElem_cons_succ, List.getElem_cons_zero, List.setIfInBounds_toArray, List.set_cons_zero, List.set_cons_succ]
                                      refine wpAnyJ_done (by kernel_rfl) ?_ _
                                      go_wp2_with fail
                                      go_ret
                                      exact ⟨rfl, bgo hbzT.out hbC.out⟩
                                    exact AllReadyJ.nil
                                  exact AllReadyJ.nil
                                exact AllReadyJ.nil
                              refine AllReadyJ.cons (o := _) rfl (fun Kq hKq => ?_) ?_
                              · go_simp
                                go_at_call 12
                                refine (mac_any _ _ _ key _ WX (seesB_of hkeyT.out (Nat.le_refl _) hbC.out) hJ (Nat.le_refl _) hk64.out hfl2.out).mono ?_
                                rintro e WX ⟨vQ, rfl, hNew, hal⟩
                                obtain ⟨AQhR, cQhR, rfl, -, -⟩ := hNew.sees.mk_
                                replace hJ := seesB_of hJ (Nat.le_refl _) hal
                                replace hbC := Lib.hid (bgo hbC.out hal)
                                have hR := hNew.sees
                                clear hNew hal
                                go_wp2_with fail
                                refine hKq.out _ _ ?_ (fun hHeld => ?_)
                                · intro _; (try dsimp only); first | done | trivial
                                clear hKq Kq
                                try simp only [Act.put, List.getElem_toArray, List.getElem_cons_succ, List.getElem_cons_zero, List.setIfInBounds_toArray, List.set_cons_zero, List.set_cons_succ]
                                refine wpAnyJ_ready (rs := [20]) (by kernel_rfl) (by simp) ?_
                                refine AllReadyJ.cons (o := _) rfl (fun Kq hKq => ?_) ?_
                                · go_simp
                                  refine hKq.out _ _ ?_ (fun hHeld => ?_)
                                  · intro _; (try dsimp only); first | done | trivial
                                  clear hKq Kq
                                  try simp only [Act.put, List.getElem_toArray, List.getElem_cons_succ, List.getElem_cons_zero, List.setIfInBounds_toArray, List.set_cons_zero, List.set_cons_succ]
                                  refine wpAnyJ_ready (rs := [28]) (by kernel_rfl) (by simp) ?_
                                  refine AllReadyJ.cons (o := _) rfl (fun Kq hKq => ?_) ?_
                                  · go_simp
                                    go_at_call 14
                                    refine (rsame_self _ _ _ _ _ _ WX (seesB_of hS2.out (Nat.le_refl _) hbC.out) hR rfl).mono ?_
                                    rintro e WX ⟨rfl, rfl⟩
                                    go_wp2_with fail
                                    refine hKq.out _ _ ?_ (fun hHeld => ?_)
                                    · intro _; (try dsimp only); first | done | trivial
                                    clear hKq Kq
                                    try simp only [Act.put, List.getElem_toArray, List.getElem_cons_succ, List.getElem_cons_zero, List.setIfInBounds_toArray, List.set_cons_zero, List.set_cons_succ]
                                    refine wpAnyJ_take0 (i := 29) (v := ?_) rfl (by kernel_rfl) (by kernel_rfl) (by kernel_rfl) (fun _ _ _ h => h) (by rfl) (Or.inl ⟨by rfl, ?_⟩) (by assumption) ?_
                                    rotate_left 1
                                    · intro w hSw; (try dsimp only at hSw); go_simp <;> (try with_reducible rfl)
                                    try simp only [Act.put, List.getElem_toArray, List.getElem_cons_succ, List.getElem_cons_zero, List.setIfInBounds_toArray, List.set_cons_zero, List.set_cons_succ]
                                    refine wpAnyJ_ready (rs := [30]) (by kernel_rfl) (by simp) ?_
                                    refine AllReadyJ.cons (o := _) rfl (fun Kq hKq => ?_) ?_
                                    · go_simp
                                      refine hKq.out _ _ ?_ (fun hHeld => ?_)
                                      · intro hl; exact absurd hl (by decide)
                                      clear hKq Kq
                                      try simp only [Act.put, List.getElem_toArray, List.getElem_cons_succ, List.getElem_cons_zero, List.setIfInBounds_toArray, List.set_cons_zero, List.set_cons_succ]
                                      refine wpAnyJ_done (by kernel_rfl) ?_ _
                                      go_wp2_with fail
                                      go_ret
                                      exact ⟨rfl, bgo hbzT.out hbC.out⟩
                                    exact AllReadyJ.nil
                                  exact AllReadyJ.nil
                                exact AllReadyJ.nil
                              exact AllReadyJ.nil
                            exact AllReadyJ.nil
                          exact AllReadyJ.nil
                        exact AllReadyJ.nil
                      exact AllReadyJ.nil
                    exact AllReadyJ.nil
                  exact AllReadyJ.nil
                exact AllReadyJ.nil
              exact AllReadyJ.nil
            exact AllReadyJ.nil
          exact AllReadyJ.nil
        exact AllReadyJ.nil
end Go.Proofs.Ytpdphpekgphniaa

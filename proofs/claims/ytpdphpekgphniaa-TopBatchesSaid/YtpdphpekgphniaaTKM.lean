/- Contracts of kdf.masked, Mac and Expand (64 bytes). Conditions: keys of at most 64 bytes; those of each theorem. -/
import Derived.Test.YtpdphpekgphniaaTKA
namespace Go.Proofs.Ytpdphpekgphniaa
open Go.RowKit
set_option linter.unusedVariables false
attribute [local go_sem ↓] Go.wp_at_zero Go.wp_at_succ
def xorM (z : UInt8) (b : Int) : UInt8 := UInt8.ofNat (bits .xor .u8 (z.toNat : Int) b).toNat
theorem xorM_eq (z : UInt8) (b : Int) : bits .xor .u8 (z.toNat : Int) b = ((xorM z b).toNat : Int) := by
  have h : 0 ≤ bits .xor .u8 (z.toNat : Int) b ∧ bits .xor .u8 (z.toNat : Int) b < 256 := by
    show 0 ≤ IntKind.u8.wrap _ ∧ IntKind.u8.wrap _ < 256
    rw [IntKind.wrap_u8]
    omega
  unfold xorM
  generalize bits .xor .u8 (z.toNat : Int) b = x at *
  simp
  omega
/-- The key of a block, each byte combined. -/
def maskG (key : Bs) (m : Int) : Bs := (key ++ List.replicate (64 - key.length) 0).map fun z => xorM z m
def macG (key b : Bs) : Bs := sha (maskG key 92 ++ sha (maskG key 54 ++ b))
/-- The first k bytes combined. -/
def maskL (m : Int) (k : Nat) (L : Bs) : Bs := ((L.take k).map fun z => xorM z m) ++ L.drop k
theorem maskL_len (m : Int) (k : Nat) (L : Bs) : (maskL m k L).length = L.length := by
  unfold maskL; rw [List.length_append, List.length_map, List.length_take, List.length_drop]; omega
theorem maskL_get (m : Int) (k : Nat) (L : Bs) (h : k < L.length) : (maskL m k L)[k]? = some (L.getD k 0) := by
  have hl : ((L.take k).map fun z => xorM z m).length = k := by rw [List.length_map, List.length_take]; omega
  unfold maskL
  rw [List.getElem?_append_right (by omega), hl, Nat.sub_self, List.getElem?_drop, Nat.add_zero, List.getD_eq_getElem?_getD, List.getElem?_eq_getElem h]
  rfl
theorem maskL_set (m : Int) (k : Nat) (L : Bs) (h : k < L.length) : (maskL m k L).set k (xorM (L.getD k 0) m) = maskL m (k + 1) L := by
  have hl : ((L.take k).map fun z => xorM z m).length = k := by rw [List.length_map, List.length_take]; omega
  unfold maskL
  rw [List.set_append_right _ _ (by omega), hl, Nat.sub_self, List.drop_eq_getElem_cons h, List.set_cons_zero, List.take_succ_eq_append_getElem h, List.map_append, List.append_assoc]
  have e : L.getD k 0 = L[k] := by rw [List.getD_eq_getElem?_getD, List.getElem?_eq_getElem h]; rfl
  rw [e]
  rfl
theorem maskG_len (key : Bs) (m : Int) (h : key.length ≤ 64) : (maskG key m).length = 64 := by
  unfold maskG; rw [List.length_map, List.length_append, List.length_replicate]; omega
theorem maskL_take (m : Int) (X Y : Bs) (h : X.length = 64) : (maskL m 64 (X ++ Y)).take 64 = X.map fun z => xorM z m := by
  unfold maskL
  rw [List.take_left' h, List.take_left' (by rw [List.length_map, h])]
theorem own_of_box {w : World} {g base n : Nat} {L M : Bs} (h : Box w g 5 (vb L)) (hb : base ≤ g) (hn : n ≤ L.length) (hm : L.length ≤ maxLen) (hM : M = L.take n) : OwnB w base (.slice (some ⟨g, 0, none⟩) n L.length) M := by
  subst hM
  have hl : (L.take n).length = n := by rw [List.length_take]; omega
  unfold OwnB
  rw [hl]
  refine ⟨by rw [vb_len, hl, Nat.mul_one], .inr ⟨g, L.length, (vb L).toArray, rfl, hb, h, hn, hm, by simp [vb_len], ?_⟩⟩
  rw [Nat.mul_one]
  simp [vb, List.map_take]
theorem make_128 (W : World) : (Instr.makeSlice 22 (.int .i64 64) (.int .i64 128)).run Try.prog W = .ok (.slice (some ⟨W.heap.size, 0, none⟩) 64 128) (W.alloc (.cells (vb (List.replicate 128 0)).toArray 5)) := by
  obtain ⟨i, hi, hz, hs, hb⟩ := info_parts byte_info
  have h := run_make (P := Try.prog) W 22 5 i (.int .u8 0) Try.underlying22 hi hz .i64 .i64 64 128 (by omega) (by omega) (by rw [hb]; omega) (by omega)
  rw [h, hs, ← vb_rep, ← toList_madeCells_one]
  rfl
set_option maxRecDepth 100000 in
theorem masked_any (B : Nat) (u : Value) (key : Bs) (m : Int) (w : World) (hu : SeesB w B u key) (hB : B ≤ w.heap.size) (hk : key.length ≤ 64) :
    Calls Try.prog 33 #[u, .int .u8 m] w (Gives (maskG key m) w) := by
  obtain ⟨A, c, rfl, hc1, hc2⟩ := hu.mk_
  have hsz : (Try.prog.info? 5).map (·.size) = some 1 := by kernel_rfl
  obtain ⟨L0, hL0⟩ : ∃ L0 : Bs, L0 = List.replicate 128 0 := ⟨_, rfl⟩
  have hL0l : L0.length = 128 := by rw [hL0, List.length_replicate]
  have hmk : ∀ W : World, (Instr.makeSlice 22 (.int .i64 64) (.int .i64 128)).run Try.prog W = .ok (.slice (some ⟨W.heap.size, 0, none⟩) 64 128) (W.alloc (.cells (vb L0).toArray 5)) := fun W => by rw [hL0]; exact make_128 W
  have hb0 := balloc w (.cells (vb L0).toArray 5)
  have hbx := Box.new w 5 (vb L0)
  have hu1 := hu.below (hb0.mono hB)
  have hpos : 0 < (vb key).length → ∃ ad, A = some ad ∧ ∀ j v, (vb key)[j]? = some v → (w.alloc (.cells (vb L0).toArray 5)).cell? (ad.add j) = some v := sees_cells hu1
  have hn : (vb key).length = Nat.min key.length 64 := by rw [vb_len]; exact (Nat.min_eq_left hk).symm
  have hfit : 0 + (vb key).length ≤ (vb L0).length := by rw [vb_len, vb_len, hL0l]; omega
  replace hbx := Lib.hid hbx
  replace hb0 := Lib.hid hb0
  replace hpos := Lib.hid hpos
  replace hn := Lib.hid hn
  replace hfit := Lib.hid hfit
  replace hL0 := Lib.hid hL0
  replace hL0l := Lib.hid hL0l
  replace hk := Lib.hid hk
  clear hu hu1
  go_enter Try.func33, Try.ntmps33
  go_wp2_with ((refine wpList_copy_splice rfl (.tmp 8) (.tmp 9) 22 22 rfl 5 Try.underlying22 hsz (some ⟨w.heap.size, 0, none⟩) A 64 128 key.length c (by rfl) (by rfl) w.heap.size 0 (vb L0) 5 hbx.out (vb key) hn.out (fun h => ⟨rfl, hpos.out h⟩) hfit.out (vb_one _) w.heap.size _ hb0.out (Nat.le_refl _) ?_))
  intro W1 hx1 hb1
  replace hx1 : Box W1 w.heap.size 5 (vb (splice L0 0 key)) := by have := hx1.out; rw [vb_splice] at this; exact this
  have hL1 : (splice L0 0 key).length = 128 := by rw [length_splice _ _ _ (by rw [hL0l.out]; have := hk.out; omega), hL0l.out]
  have hT : Hid (maskG key m = (maskL m 64 (splice L0 0 key)).take 64) := by
    show _ = _
    have hk := hk.out
    have e : splice L0 0 key = (key ++ List.replicate (64 - key.length) 0) ++ List.replicate 64 0 := by
      rw [hL0.out]
      unfold splice
      rw [List.take_zero, List.nil_append, Nat.zero_add, List.drop_replicate, List.append_assoc, List.replicate_append_replicate, show 64 - key.length + 64 = 128 - key.length by omega]
    have hl : (key ++ List.replicate (64 - key.length) (0 : UInt8)).length = 64 := by rw [List.length_append, List.length_replicate]; omega
    rw [e, maskL_take _ _ _ hl]
    rfl
  have hsplit : maskL m 0 (splice L0 0 key) = splice L0 0 key := by unfold maskL; simp
  rw [← hsplit] at hx1
  generalize splice L0 0 key = L1 at *
  generalize goInt ((vb key).length : Int) = gi
  replace hT := Lib.hid hT
  replace hL1 := Lib.hid hL1
  replace hx1 := Lib.hid hx1
  replace hb1 := Lib.hid hb1
  clear hbx hb0 hpos hn hfit hL0 hL0l hmk hsplit
  go_wp2_with fail
  go_loopw [13] (fun t wr => ∃ k : Nat, k ≤ 64 ∧ t = .int .i64 k ∧ Box wr w.heap.size 5 (vb (maskL m k L1)) ∧ Below w.heap.size w wr) (fun t _ => 64 - (intOf t).toNat)
  case atStart => exact ⟨0, by omega, rfl, hx1.out, hb1.out⟩
  case round =>
    clear hx1 hb1
    obtain ⟨k, hk64, rfl, hx, hbw⟩ := hrel
    by_cases hlt : k < 64
    · have hcell := hx.cell k
      rw [vb_get, maskL_get m k L1 (by rw [hL1.out]; omega)] at hcell
      have hf := hx.frozen k
      have hst := hx.set k (byV (xorM (L1.getD k 0) m))
      rw [vb_set, maskL_set m k L1 (by rw [hL1.out]; omega)] at hst
      have hx3 := xorM_eq (L1.getD k 0) m
      generalize L1.getD k 0 = z at *
      generalize xorM z m = y at *
      replace hcell : wr.cell? ⟨w.heap.size, k, none⟩ = some (.int .u8 (z.toNat : Int)) := hcell
      have i0 : (0 : Int) ≤ (k : Int) := by omega
      have i1 : (k : Int) < 64 := by omega
      have hbw2 := hbw.setCell (p := ⟨w.heap.size, k, none⟩) (Nat.le_refl _) (byV y)
      replace hbw := Lib.hid hbw
      replace hx := Lib.hid hx
      replace hst := Lib.hid hst
      replace hbw2 := Lib.hid hbw2
      go_wp2_with fail
      go_roundw
      case rel => exact ⟨k + 1, by omega, by go_num, hst.out, hbw2.out⟩
      case measure => simp [intOf]; omega
    · have he : k = 64 := by omega
      have hL := maskL_len m k L1
      have hown := own_of_box hx (Nat.le_refl _) (show 64 ≤ (maskL m k L1).length by rw [hL, hL1.out]; omega) (by rw [hL, hL1.out]; unfold maxLen; omega) (M := maskG key m) (by rw [hT.out, he])
      rw [hL, hL1.out] at hown
      have i2 : ¬ ((k : Int) < 64) := by omega
      replace he := Lib.hid he
      replace hown := Lib.hid hown
      replace hbw := Lib.hid hbw
      clear hx hL
      go_wp2_with fail
      go_ret
      exact ⟨_, rfl, hown.out, hbw.out⟩
set_option maxRecDepth 100000 in
theorem mac_any (B : Nat) (u u2 : Value) (key b : Bs) (w : World) (hu : SeesB w B u key) (hu2 : SeesB w B u2 b) (hB : B ≤ w.heap.size) (hk : key.length ≤ 64) (hb : b.length ≤ 1048576) :
    Calls Try.prog 12 #[u, u2] w (Gives (macG key b) w) := by
  obtain ⟨A, c, rfl, -, -⟩ := hu.mk_
  obtain ⟨A2, c2, rfl, -, -⟩ := hu2.mk_
  have i0 : ¬ ((64 : Int) < (key.length : Int)) := by omega
  have hm1 := fun (W : World) (h : Below w.heap.size w W) => masked_any B _ key 54 W (hu.below (h.mono hB)) (Nat.le_trans hB h.size) hk
  have hm2 := fun (W : World) (h : Below w.heap.size w W) => masked_any B _ key 92 W (hu.below (h.mono hB)) (Nat.le_trans hB h.size) hk
  have hl1 := maskG_len key 54 hk
  have hl2 := maskG_len key 92 hk
  have hG : Hid (sha (maskG key 92 ++ sha (maskG key 54 ++ b)) = macG key b) := rfl
  replace hm1 := Lib.hid hm1
  replace hm2 := Lib.hid hm2
  replace hu := Lib.hid hu
  replace hu2 := Lib.hid hu2
  replace hk := Lib.hid hk
  replace hb := Lib.hid hb
  generalize maskG key 54 = M1 at *
  generalize maskG key 92 = M2 at *
  replace hl1 := Lib.hid hl1
  replace hl2 := Lib.hid hl2
  go_enter Try.func12, Try.ntmps12
  go_wp2_with fail
  refine (hm1.out w (Below.refl _ _)).mono ?_
  rintro e w1 ⟨v1, rfl, h1, hb1⟩
  have hs1 := hu2.out.below (hb1.mono hB)
  replace h1 := Lib.hid h1
  replace hb1 := Lib.hid hb1
  replace hs1 := Lib.hid hs1
  dsimp only
  go_wp2_with (at_builtin; refine wpList_app (by rfl) _ _ rfl w.heap.size _ _ rfl h1.out B _ b rfl hs1.out (by have := hl1.out; have := hb.out; omega) hb1.out.size ?_)
  intro v2 w2 h2 hb2
  have hL1 : Hid ((M1 ++ b).length ≤ 1099511627776) := by show _ ≤ _; rw [List.length_append]; have := hl1.out; have := hb.out; omega
  generalize M1 ++ b = P1 at *
  have hsm1 := Lib.hid (sum_any _ v2 P1 w2 h2.sees (Nat.le_refl _) hL1.out)
  replace hb2 := Lib.hid (hb1.out.trans hb2)
  have hl32 : Hid ((sha P1).length = 32) := sha_len _
  generalize sha P1 = S1 at *
  clear h1 hs1 hb1
  replace h2 := Lib.hid h2
  go_wp2_with fail
  refine hsm1.out.mono ?_
  rintro e w3 ⟨v3, rfl, h3, hb3⟩
  replace hb3 := Lib.hid (bgo hb2.out hb3)
  clear hsm1 h2
  replace h3 := Lib.hid h3
  dsimp only
  go_wp2_with fail
  refine (hm2.out w3 hb3.out).mono ?_
  rintro e w4 ⟨v4, rfl, h4, hb4⟩
  replace h3 := Lib.hid (h3.out.below hb4)
  replace hb4 := Lib.hid (bgo hb3.out hb4)
  have h4w := Lib.hid (h4.mono hb3.out.size)
  clear h4
  dsimp only
  go_wp2_with (at_builtin; refine wpList_app (by rfl) _ _ rfl w.heap.size _ _ rfl h4w.out w4.heap.size _ S1 rfl h3.out.sees (by have := hl2.out; have := hl32.out; omega) hb4.out.size ?_)
  intro v5 w5 h5 hb5
  have hL2 : Hid ((M2 ++ S1).length ≤ 1099511627776) := by show _ ≤ _; rw [List.length_append]; have := hl2.out; have := hl32.out; omega
  generalize M2 ++ S1 = P2 at *
  have hsm2 := Lib.hid (sum_any _ v5 P2 w5 h5.sees (Nat.le_refl _) hL2.out)
  replace hb5 := Lib.hid (hb4.out.trans hb5)
  clear h4w h3 hb3 hb4 h5
  go_wp2_with fail
  refine hsm2.out.mono ?_
  rintro e w6 ⟨v6, rfl, h6, hb6⟩
  dsimp only
  go_wp2_with fail
  go_ret
  rw [hG.out] at h6
  exact ⟨v6, rfl, h6.mono hb5.out.size, bgo hb5.out hb6⟩
/-- append, with what grows. -/
theorem wpList_appG {ops : Array Oper} {rest : List Oper} {o : Oper} {a : Act} {w : World} {Q : Exit → Act → World → Prop} (hgd : Region.wanted o (yielded ops a.tmps) = true) (s x : Operand)
    (ho : o.op = .call { callee := .builtin .append, args := #[s, x], argTypes := #[22, 22] })
    (base : Nat) (v : Value) (l : Bs) (hs : a.eval s = v) (hown : OwnB w base v l) (B : Nat) (u : Value) (m : Bs) (hx : a.eval x = u) (hr : SeesB w B u m)
    (hlen : l.length + m.length ≤ 140737488355328) (hbase : base ≤ w.heap.size)
    (h : ∀ v' w', OwnB w' base v' (l ++ m) → Below base w w' → w.grownBy w' v.ownBlock → (v'.ownBlock = v.ownBlock ∨ v'.ownBlock = some w.heap.size) → wpList Try.prog ops Q rest (a.put o.dst v') w') : wpList Try.prog ops Q (o :: rest) a w := by
  obtain ⟨i, hi, hz, hsz, hby⟩ := info_parts byte_info
  refine wpList_append_sees hgd s x 22 ho base 5 i (.int .u8 0) 1 1 Try.underlying22 hi hz hsz hby rfl (by omega) v l.length (vb l) hs hown B u m.length (vb m) hx hr (vb_one m) (by unfold maxLen; omega) (by omega) hbase ?_
  intro v' w' h1 h2 h3
  refine h v' w' ?_ (below_of_grown hown h2 hbase) h2 h3
  unfold OwnB
  rw [vb_append, List.length_append]
  exact h1
/-- What Expand has made last, and in all. -/
def lastK (key info : Bs) : Nat → Bs
  | 0 => []
  | k + 1 => macG key (lastK key info k ++ info ++ [UInt8.ofNat (k + 1)])
def outK (key info : Bs) : Nat → Bs
  | 0 => []
  | k + 1 => outK key info k ++ lastK key info (k + 1)
theorem lastK_len (key info : Bs) : ∀ k, (lastK key info k).length ≤ 32
  | 0 => Nat.zero_le _
  | k + 1 => by rw [lastK, macG, sha_len]; exact Nat.le_refl _
theorem outK_len (key info : Bs) : ∀ k, (outK key info k).length = 32 * k
  | 0 => rfl
  | k + 1 => by rw [outK, List.length_append, outK_len key info k, lastK, macG, sha_len]; omega
def Apart (a b : Value) : Prop := ∀ g, a.ownBlock = some g → b.ownBlock ≠ some g
theorem OwnB.apart {w w' : World} {base : Nat} {a b : Value} {l : Bs} (h : OwnB w base a l) (hg : w.grownBy w' b.ownBlock) (hp : Apart a b) : OwnB w' base a l := by
  refine World.ownsRow.kept h hg ?_
  cases e : a.ownBlock with
  | none => exact .inl rfl
  | some g => exact .inr (fun e2 => hp g e e2.symm)
def ExpPost (key info : Bs) (w : World) (e : Ending) (w' : World) : Prop :=
  ∃ v, e = .returned (.tuple #[v, .int .i64 0]) ∧ SeesB w' w'.heap.size v (outK key info 2) ∧ Below w.heap.size w w'
set_option maxRecDepth 100000 in
theorem expand_any (B : Nat) (u u2 : Value) (key info : Bs) (w : World) (hu : SeesB w B u key) (hu2 : SeesB w B u2 info) (hB : B ≤ w.heap.size) (hk : key.length ≤ 64) (hb : info.length ≤ 1000000) :
    Calls Try.prog 11 #[u, u2, .int .i64 64] w (ExpPost key info w) := by
  obtain ⟨A, c, rfl, -, -⟩ := hu.mk_
  obtain ⟨A2, c2, rfl, -, -⟩ := hu2.mk_
  have hm := fun (W : World) (v : Value) (b : Bs) (h : Below w.heap.size w W) (hv : SeesB W W.heap.size v b) (hb : b.length ≤ 1048576) => mac_any W.heap.size _ v key b W ((hu.below (h.mono hB)).more (Nat.le_trans hB h.size)) hv (Nat.le_refl _) hk hb
  have hi2 := fun (W : World) (h : Below w.heap.size w W) => hu2.below (h.mono hB)
  replace hm := Lib.hid hm
  replace hi2 := Lib.hid hi2
  replace hu := Lib.hid hu
  replace hu2 := Lib.hid hu2
  replace hk := Lib.hid hk
  replace hb := Lib.hid hb
  go_enter Try.func11, Try.ntmps11
  go_wp2_with fail
  go_loopw [8, 9, 10] (fun o l i wr => ∃ k : Nat, k ≤ 2 ∧ i = .int .i64 ((k + 1 : Nat) : Int) ∧ OwnB wr w.heap.size o (outK key info k) ∧ OwnB wr w.heap.size l (lastK key info k) ∧ Apart o l ∧ Below w.heap.size w wr) (fun _ _ i _ => 3 - (intOf i).toNat)
  case atStart => exact ⟨0, by omega, rfl, World.ownsRow_nil _ _ _ _, World.ownsRow_nil _ _ _ _, fun g e => (by cases e), Below.refl _ _⟩
  case round =>
    obtain ⟨k, hk2, rfl, ho, hl, hap, hbw⟩ := hrel
    have hol := outK_len key info k
    have hll := lastK_len key info k
    have hstep : Hid (lastK key info (k + 1) = macG key (lastK key info k ++ info ++ [UInt8.ofNat (k + 1)])) := rfl
    have hstep2 : Hid (outK key info (k + 1) = outK key info k ++ lastK key info (k + 1)) := rfl
    have hll2 := lastK_len key info (k + 1)
    obtain ⟨Ao, co, rfl, hco, -⟩ := ho.sees.mk_
    rw [hol] at ho hap hco ⊢
    replace hco := Lib.hid hco
    by_cases hlt : k < 2
    · have i0 : (32 * (k : Int)) < 64 := by omega
      have m0 : IntKind.u8.wrap ((k : Int) + 1) = (k : Int) + 1 := by rw [IntKind.wrap_u8]; omega
      have hx : ((UInt8.ofNat (k + 1)).toNat : Int) = (k : Int) + 1 := by simp; omega
      replace ho := Lib.hid ho
      replace hl := Lib.hid hl
      replace hbw := Lib.hid hbw
      replace hol := Lib.hid hol
      replace hll := Lib.hid hll
      replace hll2 := Lib.hid hll2
      replace hx := Lib.hid hx
      replace hap := Lib.hid hap
      generalize hL1e : lastK key info (k + 1) = L1 at *
      replace hL1e := Lib.hid hL1e
      generalize lastK key info k = L0 at *
      generalize UInt8.ofNat (k + 1) = y at *
      have hi3 := Lib.hid (hi2.out _ hbw.out)
      go_wp2_with (at_builtin; refine wpList_appG (by rfl) _ _ rfl w.heap.size _ _ rfl hl.out B _ info rfl hi3.out (by have := hll.out; have := hb.out; omega) hbw.out.size ?_)
      intro v1 W1 h1 hb1 hg1 hor1
      have ho1 := ho.out.apart hg1 hap.out
      have hap1 : Apart (.slice Ao (32 * k) co) v1 := fun g e e2 => by
        rcases hor1 with h | h
        · exact hap.out g e (h ▸ e2)
        · rw [h] at e2; injection e2 with e2; have := (World.ownsRow.lt ho.out g e).2; omega
      replace hb1 := hbw.out.trans hb1
      have hP1 : Hid ((L0 ++ info).length = L0.length + info.length) := List.length_append
      generalize L0 ++ info = P1 at *
      have hal := balloc W1 (.cells #[.int .u8 ((k : Int) + 1)] 5)
      have h1a := h1.below hal
      have ho1a := ho1.below hal
      have hby := (one_byte W1 y _ hx.out).sees
      have hb1a := bgo hb1 hal
      clear ho hbw hg1 hor1 hap hal hl hi3
      replace h1a := Lib.hid h1a
      replace ho1a := Lib.hid ho1a
      replace hby := Lib.hid hby
      replace hb1a := Lib.hid hb1a
      replace hap1 := Lib.hid hap1
      replace ho1 := Lib.hid ho1
      clear h1 hb1
      go_wp2_with (at_builtin; refine wpList_appG (by rfl) _ _ rfl w.heap.size _ _ rfl h1a.out _ _ [y] rfl hby.out (by have := hP1.out; have := hll.out; have := hb.out; simp; omega) hb1a.out.size ?_)
      intro v2 W2 h2 hb2 hg2 hor2
      have ho2 := ho1a.out.apart hg2 hap1.out
      have hlt2 := fun g e => (World.ownsRow.lt ho2 g e).2
      replace hb2 := hb1a.out.trans hb2
      have hlen2 : (P1 ++ [y]).length ≤ 1048576 := by rw [List.length_append]; have := hP1.out; have := hll.out; have := hb.out; simp; omega
      generalize P1 ++ [y] = P2 at *
      have hmc := hm.out W2 v2 _ hb2 h2.sees hlen2
      rw [← hstep.out] at hmc
      clear h1a ho1a hby hb1a hap1 ho1 hg2 hor2 h2 hlen2
      replace hmc := Lib.hid hmc
      replace ho2 := Lib.hid ho2
      replace hb2 := Lib.hid hb2
      replace hlt2 := Lib.hid hlt2
      go_wp2_with fail
      refine hmc.out.mono ?_
      rintro e W3 ⟨v3, rfl, h3, hb3⟩
      have ho3 := Lib.hid (ho2.out.below hb3)
      have hb3w := Lib.hid (bgo hb2.out hb3)
      have hap3 : Hid (∀ g, v3.ownBlock = some g → W2.heap.size ≤ g ∧ g < W3.heap.size) := fun g e => World.ownsRow.lt h3 g e
      replace h3 := Lib.hid h3
      replace hb3 := Lib.hid hb3
      clear hmc
      dsimp only
      go_wp2_with (at_builtin; refine wpList_appG (by rfl) _ _ rfl w.heap.size _ _ rfl ho3.out _ _ L1 rfl h3.out.sees (by have := hol.out; have := hll2.out; omega) hb3w.out.size ?_)
      intro v4 W4 h4 hb4 hg4 hor4
      have h34 := h3.out.apart hg4 (fun g e e2 => by have := (hap3.out g e).1; have := hlt2.out g e2; omega)
      have hap4 : Apart v4 v3 := fun g e e2 => by
        have h5 := hap3.out g e2
        rcases hor4 with h | h
        · rw [h] at e; have := hlt2.out g e; omega
        · rw [h] at e; injection e with e; omega
      rw [← hstep2.out] at h4
      replace hb4 := Lib.hid (hb3w.out.trans hb4)
      replace h34 := Lib.hid (h34.mono hb2.out.size)
      replace h4 := Lib.hid h4
      replace hap4 := Lib.hid hap4
      clear h3 ho3 ho2 hg4 hor4
      go_wp2_with fail
      go_roundw
      case rel => exact ⟨k + 1, by omega, by go_num, h4.out, (by rw [hL1e.out]; exact h34.out), hap4.out, hb4.out⟩
      case measure => simp [intOf]; omega
    · obtain rfl : k = 2 := by omega
      have hs := ho.sees.take (m := 64) (c' := 64) (by rw [hol]; omega) (Nat.le_refl _) (by unfold maxLen; omega)
      rw [List.take_of_length_le (by rw [hol]; omega)] at hs
      replace hs := Lib.hid hs
      replace hbw := Lib.hid hbw
      clear ho hl hap hol hll hstep hstep2 hll2
      have i3 : (64 : Int) ≤ (co : Int) := by have := hco.out; omega
      go_wp2_with fail
      refine bodyPost_ret (v := .tuple #[.slice Ao 64 64, .int .i64 0]) (by simp [results, Try.results11, go_sem]) rfl ?_
      exact ⟨_, rfl, hs.out, hbw.out⟩
end Go.Proofs.Ytpdphpekgphniaa

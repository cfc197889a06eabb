/- Contract of sectimeref34.Profile. Conditions: the spans are seen, valid, from 1 to 64. -/
import Derived.Test.YtiiaghmdajdbbaaQK
import Derived.Test.YtiiaghmdajdbbaaQF
namespace Go.Proofs.Ytiiaghmdajdbbaa
open Go.RowKit
set_option linter.unusedVariables false
set_option linter.unusedSimpArgs false
attribute [local go_sem ↓] Go.wp_at_zero Go.wp_at_succ
def Lit3 (W : World) (u : Value) (p : Int × Int × Int) : Prop := Sees W W.heap.size u 3 1 [.int .i64 p.1, .int .i64 p.2.1, .int .i64 p.2.2]
theorem Lit3.drew {W : World} {u : Value} {p : Int × Int × Int} (h : Lit3 W u p) : Lit3 W.drew u p := (Sees.below h (bdrew _)).more (bdrew _).size
theorem Lit3.new {W : World} {G : Nat} (p : Int × Int × Int) (hG : W.heap.size = G) : Lit3 (W.alloc (.cells #[.int .i64 p.1, .int .i64 p.2.1, .int .i64 p.2.2] 89)) (.slice (some ⟨G, 0, none⟩) 1 1) p := by
  subst hG
  unfold Lit3
  rw [World.size_alloc]
  exact rec_lit W 89 [.int .i64 p.1, .int .i64 p.2.1, .int .i64 p.2.2]
theorem OwnP.shape {w : World} {base : Nat} {v : Value} {l : List (Int × Int × Int)} (h : OwnP w base v l) : ∃ A n c, v = .slice A n c := by
  obtain ⟨A, c, e, -, -⟩ := (Sees.of_own h).mk_
  exact ⟨A, _, c, e⟩
theorem step_appP {ops : Array Oper} {o : Oper} {a : Act} {w : World} {K : Act → World → Prop} {Q : Exit → Act → World → Prop} {X : Prop} (hgd : o.guard = none) (s x : Operand)
    (ho : o.op = .call { callee := .builtin .append, args := #[s, x], argTypes := #[69, 69] })
    (base : Nat) (v : Value) (m : Nat) (out : List (Int × Int × Int)) (hs : a.eval s = v) (hown : w.ownsRow base 89 3 v m (pcV out)) (hm : out.length = m) (u : Value) (p : Int × Int × Int) (hx : a.eval x = u) (hr : Lit3 w u p) (hlen : m ≤ 100000) (hbase : base ≤ w.heap.size)
    (h : ∀ v' w', OwnP w' base v' (out ++ [p]) → w.grownBy w' v.ownBlock → K (a.put o.dst v') w') : if Region.wanted o (yielded ops a.tmps) = true then Oper.wp Try.prog o a w K Q else X := by
  have hw : Region.wanted o (yielded ops a.tmps) = true := by simp [Region.wanted, hgd]
  rw [if_pos hw]
  obtain ⟨i, hi, hz, hsz, hby⟩ := info_parts piece_info
  refine wp_append_sees s x 69 ho base 89 i _ 3 24 Try.underlying69 hi hz hsz hby rfl (by omega) v m (pcV out) hs hown w.heap.size u 1 _ hx hr (by simp [Value.oneCell']) (by unfold maxLen; omega) (by omega) hbase ?_
  intro v' w' g1 g2 g3
  exact h v' w' (ownP_push hm g1) g2
def ProfP (l : List Sp) (w : World) (e : Ending) (w' : World) : Prop := ∃ v ps, e = .returned (.tuple #[v, .int .i64 0]) ∧ OwnP w' w.heap.size v ps ∧ PAll l ps ∧ ps.length ≤ 128 ∧ PB ps ∧ Below w.heap.size w w'
theorem prof_done {l : List Sp} {w w' : World} {v : Value} {ps : List (Int × Int × Int)} {c : List Int} {k B : Nat} (hC : Cuts l c) (hi : CI l c k ps) (hk : k + 1 = c.length) (hl : ps.length ≤ k) (hc : c.length ≤ 128) (hb : PB ps) (ho : OwnP w' B v ps) (hB : w.heap.size ≤ B) (hbw : Below w.heap.size w w') : ProfP l w (.returned (.tuple #[v, .int .i64 0])) w' :=
  ⟨v, ps, rfl, row_mono ho hB, hi.all hC hk, by omega, hb, hbw⟩
set_option maxRecDepth 100000 in
set_option maxHeartbeats 8000000 in
theorem profile_any (B : Nat) (u : Value) (l : List Sp) (w : World) (hu : SeesS w B u l) (hB : B ≤ w.heap.size) (hn : l.length ≤ 64) (h0 : 0 < l.length) (hok : okV l = true) :
    Calls Try.prog 49 #[u] w (ProfP l w) := by
  have hck := rcheck_any B u l w hu hB hn
  have hcu := Lib.hid (fun W (hb : Below w.heap.size w W) => cuts_any B u l W (SeesS.below hu (hb.mono hB)) (Nat.le_trans hB hb.size) hn hok)
  have hct := Lib.hid (fun t W (hb : Below w.heap.size w W) => rcount_any B u l t W (SeesS.below hu (hb.mono hB)) (Nat.le_trans hB hb.size) hn hok)
  obtain ⟨A, c, rfl, -, -⟩ := hu.mk_
  unfold chkC at hck
  rw [hok] at hck
  replace hck := Lib.hid hck
  replace hok := Lib.hid hok
  clear hu
  go_enter Try.func49, Try.ntmps49
  go_wp2_with fail
  refine hck.out.mono ?_
  rintro e w1 ⟨rfl, hb1⟩
  have hcu1 := Lib.hid (hcu.out w1 hb1)
  replace hb1 := Lib.hid hb1
  clear hck hcu
  dsimp only
  simp only [if_true]
  go_wp2_with fail
  refine hcu1.out.mono ?_
  rintro e W0 ⟨v, cs, rfl, hs0, hC, hcl, hb2⟩
  obtain ⟨Ac, cc, rfl, -, -⟩ := SeesI.mk_ hs0
  have hb0 : Hid (Below w.heap.size w W0) := bgo hb1.out hb2
  have hz0 : Hid (w.heap.size ≤ W0.heap.size) := hb0.out.size
  have hcn : 0 < cs.length := hC.ne h0
  have hcb := Lib.hid (hC.bound hok.out)
  have hcl2 : cs.length ≤ 128 := by omega
  replace hs0 := Lib.hid hs0
  have hst := Lib.hid (CI.start hC hok.out)
  replace hC := Lib.hid hC
  clear hcu1 hb1 hb2 hcl
  dsimp only
  go_wp2_with fail
  go_loopw [6, 7, 8, 9, 49, 52] (fun s i _ _ _ _ wr => ∃ (k : Nat) (out : List (Int × Int × Int)), k + 1 ≤ cs.length ∧ i = .int .i64 k ∧ out.length ≤ k ∧ Hid (OwnP wr W0.heap.size s out) ∧ Hid (CI l cs k out) ∧ Hid (PB out) ∧ Hid (Below W0.heap.size W0 wr)) (fun _ i _ _ _ _ _ => cs.length - (intOf i).toNat)
  case atStart => exact ⟨0, [], by omega, rfl, by simp, World.ownsRow_nil _ _ _ _, hst.out, (fun p hp => absurd hp (by simp)), Below.refl _ _⟩
  case round =>
    obtain ⟨k, out, hk, rfl, hol, hs, hi, hpb, hb⟩ := hrel
    obtain ⟨As, css, rfl, -, -⟩ := (Sees.of_own hs.out).mk_
    by_cases hlt : k + 1 < cs.length
    · obtain ⟨x, hx⟩ : ∃ x, cs[k]? = some x := ⟨_, List.getElem?_eq_getElem (by omega)⟩
      obtain ⟨y, hy⟩ : ∃ y, cs[k + 1]? = some y := ⟨_, List.getElem?_eq_getElem hlt⟩
      have hxb := hcb.out x (List.mem_of_getElem? hx)
      have hyb := hcb.out y (List.mem_of_getElem? hy)
      have hxy := hC.out.at_lt hx hy (by omega)
      have hsk : Hid (cnt l x = 0 → CI l cs (k + 1) out) := fun h => CI.skip hC.out hok.out hx hy h hi.out
      have hpu : Hid (CI l cs (k + 1) (out ++ [(x, y - 1, (cnt l x : Int))])) := CI.push hC.out hok.out hx hy hi.out
      have hjo : Hid (∀ ini q, out = ini ++ [q] → q.2.1 + 1 = x → q.2.2 = (cnt l x : Int) → CI l cs (k + 1) (ini ++ [(q.1, y - 1, q.2.2)])) := fun ini q e h h' => CI.join hC.out hok.out hx hy h h' (e ▸ hi.out)
      have hqb : Hid (∀ ini q, out = ini ++ [q] → -1152921504606846976 ≤ q.2.1 ∧ q.2.1 < x) := fun ini q e => by
        have h3 := (hi.out x hx).2.1 q (by rw [e]; simp)
        have h4 := hpb.out q (by rw [e]; simp)
        exact ⟨by omega, h3.2.1⟩
      obtain ⟨b, o, rfl, hbB, hds⟩ := SeesI.at_ (Sees.below hs0.out hb.out) (by omega)
      have hKy : Hid (∀ W, Below wr.heap.size wr W → W.cell? ⟨b, o + k, none⟩ = some (.int .i64 x) ∧ W.cell? ⟨b, o + (k + 1), none⟩ = some (.int .i64 y)) := fun W hW => by
        obtain ⟨b', o', e, -, hds'⟩ := SeesI.at_ (Sees.below hs0.out (bgo hb.out hW)) (by omega)
        cases e
        exact ⟨hds' k x hx, hds' (k + 1) y hy⟩
      have hKz : Hid (∀ W, Below W0.heap.size W0 W → W.cell? ⟨b, o + k, none⟩ = some (.int .i64 x) ∧ W.cell? ⟨b, o + (k + 1), none⟩ = some (.int .i64 y)) := fun W hW => by
        obtain ⟨b', o', e, -, hds'⟩ := SeesI.at_ (Sees.below hs0.out hW) (by omega)
        cases e
        exact ⟨hds' k x hx, hds' (k + 1) y hy⟩
      have z0 := hds k x hx
      have hcx := Lib.hid (hct.out x wr (bgo hb0.out hb.out))
      have hn0 := cnt_le l x
      obtain ⟨n0, hn0'⟩ : ∃ n0, cnt l x = n0 := ⟨_, rfl⟩
      rw [hn0'] at hsk hpu hjo hcx hn0
      obtain ⟨hx1, hx2⟩ := hxb
      obtain ⟨hy1, hy2⟩ := hyb
      have i0 : (k : Int) + 1 < (cs.length : Int) := by omega
      have i1 : (0 : Int) ≤ (k : Int) := by omega
      have i2 : (k : Int) < (cs.length : Int) := by omega
      replace hx := Lib.hid hx
      replace hy := Lib.hid hy
      replace hn0' := Lib.hid hn0'
      have hpbn : Hid (-1152921504606846976 ≤ x ∧ y - 1 ≤ 1152921504606846976 ∧ (n0 : Int) ≤ 128) := by show _ ∧ _; omega
      clear hds hi
      obtain ⟨m, hm⟩ : ∃ m, out.length = m := ⟨_, rfl⟩
      have hsm : Hid (wr.ownsRow W0.heap.size 89 3 (.slice As m css) m (pcV out)) := by show World.ownsRow _ _ _ _ _ _ _; rw [← hm]; exact hs.out
      rw [hm] at hol ⊢
      clear hs
      go_wp2_with fail
      refine hcx.out.mono ?_
      rintro e W1 ⟨rfl, hb1⟩
      replace hsm := Lib.hid (own_below hsm.out hb1)
      obtain ⟨z0', z1⟩ := hKy.out W1 hb1
      have hKy1 : Hid (∀ W, Below W1.heap.size W1 W → W.cell? ⟨b, o + k, none⟩ = some (.int .i64 x) ∧ W.cell? ⟨b, o + (k + 1), none⟩ = some (.int .i64 y)) := fun W hW => hKy.out W (bgo hb1 hW)
      replace hb := Lib.hid (bgo hb.out hb1)
      clear hb1 hKy z0 hcx
      dsimp only
      by_cases hz : n0 = 0
      · replace hsk := Lib.hid (hsk.out hz)
        subst hz
        clear hpu hjo hqb
        have hsz : Hid (OwnP W1 W0.heap.size (.slice As m css) out) := by show World.ownsRow _ _ _ _ _ _ _; rw [hm]; exact hsm.out
        replace hm := Lib.hid hm
        go_wp2_with fail
        go_roundw
        case rel => exact ⟨k + 1, out, by omega, by go_num, by rw [hm.out]; omega, hsz, hsk, hpb, hb⟩
        case measure => simp [intOf]; omega
      · clear hsk
        have i5 : ((n0 : Int) == 0) = false := by rw [beq_eq_false_iff_ne]; omega
        have e4 : IntKind.i64.wrap (y - 1) = y - 1 := by rw [IntKind.wrap_i64]; omega
        have e1 : IntKind.i64.wrap ((k : Int) + 1) = (k : Int) + 1 := by rw [IntKind.wrap_i64]; omega
        have e2 : ((k : Int) + 1).toNat = k + 1 := by omega
        have e3 : (0 : Int) ≤ (k : Int) + 1 := by omega
        rcases last_split out with rfl | ⟨ini, q, rfl⟩
        · obtain rfl : m = 0 := by simpa using hm.symm
          replace hm := Lib.hid hm
          clear hjo hqb
          go_upto_region 12 with (fail)
          go_quiet (fail)
          have hdr := below_drewN (Below.refl W1.heap.size W1) nq
          replace hsm := Lib.hid (own_below hsm.out hdr)
          replace hb := Lib.hid (bgo hb.out hdr)
          have hKy : Hid (∀ W, Below (W1.drewN nq).heap.size (W1.drewN nq) W → W.cell? ⟨b, o + k, none⟩ = some (.int .i64 x) ∧ W.cell? ⟨b, o + (k + 1), none⟩ = some (.int .i64 y)) := fun W hW => hKy1.out W (bgo hdr hW)
          clear hdr z0' z1 hKy1
          generalize W1.drewN nq = W4 at *
          obtain ⟨z0, z1⟩ := hKy.out W4 (Below.refl _ _)
          have hlt2 : Hid (∀ j, (Value.slice As (0) css).ownBlock = some j → W0.heap.size ≤ j) := fun j hj => (hsm.out.lt j hj).1
          go_upto_region 10 with (fail)
          have hb3 : True := trivial
          go_region_held3 (fun W => W.cell? ⟨b, o + k, none⟩ = some (.int .i64 x) ∧ W.cell? ⟨b, o + (k + 1), none⟩ = some (.int .i64 y)) (first | exact hKz.out _ (Hid.out hb3) | exact hKz.out _ (bgo hb.out (by (repeat (first | exact Below.refl _ _ | (refine bgo ?_ (balloc _ _)) | (refine bgo ?_ (bdrew _)) | (refine bgo ?_ (by assumption)))))))
            ((refine step_appP (by rfl) (.tmp 33) (.tmp 47) (by rfl) W0.heap.size (.slice As (0) css) (0) [] (by rfl) (own_below hsm.out (by (repeat (first | exact Below.refl _ _ | (refine bgo ?_ (balloc _ _)) | (refine bgo ?_ (bdrew _)) | (refine bgo ?_ (by assumption)))))) hm.out (.slice (some ⟨W4.heap.size, 0, none⟩) 1 1) (x, y - 1, (n0 : Int)) (by rfl) ?_ (by omega) (Nat.le_trans hb.out.size (Below.size (B := W4.heap.size) (by (repeat (first | exact Below.refl _ _ | (refine bgo ?_ (balloc _ _)) | (refine bgo ?_ (bdrew _)) | (refine bgo ?_ (by assumption))))))) ?_; (· (repeat (first | (with_reducible refine Lit3.drew ?_) | (with_reducible refine Lit3.new (x, y - 1, (n0 : Int)) ?_) | (with_reducible rfl) | (simp; done)))); intro v3 w3 s3 g3; obtain ⟨A9, n9, c9, rfl⟩ := s3.shape; have hb3 := Lib.hid (bgrowO (bgo hb.out (by (repeat (first | exact Below.refl _ _ | (refine bgo ?_ (balloc _ _)) | (refine bgo ?_ (bdrew _)) | (refine bgo ?_ (by assumption)))))) g3 hlt2.out (Below.size (B := W0.heap.size) (bgo hb.out (by (repeat (first | exact Below.refl _ _ | (refine bgo ?_ (balloc _ _)) | (refine bgo ?_ (bdrew _)) | (refine bgo ?_ (by assumption))))))))))
          rename_i hHeld
          clear hHeld
          replace s3 := Lib.hid s3
          clear g3 hsm hb hlt2 hKy hKz z0 z1
          go_wp2_with fail
          go_roundw
          case rel => exact ⟨k + 1, [] ++ [(x, y - 1, (n0 : Int))], by omega, by go_num, len_push (by rw [hm.out]; omega) _, s3, hpu, PB.push hpb.out hpbn.out, hb3⟩
          case measure => simp [intOf]; omega
        · obtain ⟨j, hj⟩ : ∃ j, ini.length = j := ⟨_, rfl⟩
          obtain rfl : m = j + 1 := by rw [List.length_append, hj] at hm; simpa using hm.symm
          obtain ⟨q1, q2⟩ := hqb.out ini q rfl
          have hjo' := hjo.out ini q rfl
          obtain ⟨g5, c5, e5, g5B, g5l, -, -, hc5⟩ := own_form hsm.out (by omega)
          injection e5 with e5 _ e5'
          subst e5 e5'
          have hcs := pcV_get (ini ++ [q]) j q (by rw [← hj]; simp)
          have d1 : W1.cell? ⟨g5, j * 3 + 1, none⟩ = some (.int .i64 q.2.1) := hc5 _ _ hcs.2.1
          have d2 : W1.cell? ⟨g5, j * 3 + 2, none⟩ = some (.int .i64 q.2.2) := hc5 _ _ hcs.2.2
          have hpj : Hid (PB (ini ++ [(q.1, y - 1, q.2.2)])) := PB.join hpb.out (by omega)
          obtain ⟨qa, qb, qc⟩ := q
          dsimp only at q1 q2 hjo' d1 d2 hpj
          replace hjo' := Lib.hid hjo'
          have e5 : IntKind.i64.wrap (((j + 1 : Nat) : Int) - 1) = (j : Int) := by rw [IntKind.wrap_i64]; omega
          have e5'' : IntKind.i64.wrap (j : Int) = (j : Int) := by rw [IntKind.wrap_i64]; omega
          have e6 : IntKind.i64.wrap (qb + 1) = qb + 1 := by rw [IntKind.wrap_i64]; omega
          have i6 : (0 : Int) ≤ (j : Int) := by omega
          have i7 : (j : Int) < ((j + 1 : Nat) : Int) := by omega
          replace hm := Lib.hid hm
          replace hj := Lib.hid hj
          clear hjo hqb hc5 hcs
          by_cases hq1 : qc = (n0 : Int)
          · have i8 : (qc == (n0 : Int)) = true := by simpa using hq1
            replace hq1 := Lib.hid hq1
            by_cases hq2 : qb + 1 = x
            · have i9 : (qb + 1 == x) = true := by simpa using hq2
              replace hq2 := Lib.hid hq2
              go_upto_region 12 with (fail)
              go_quiet (fail)
              clear i8 i9
              have hdr := below_drewN (Below.refl W1.heap.size W1) nq
              replace hsm := Lib.hid (own_below hsm.out hdr)
              replace hb := Lib.hid (bgo hb.out hdr)
              have hKy : Hid (∀ W, Below (W1.drewN nq).heap.size (W1.drewN nq) W → W.cell? ⟨b, o + k, none⟩ = some (.int .i64 x) ∧ W.cell? ⟨b, o + (k + 1), none⟩ = some (.int .i64 y)) := fun W hW => hKy1.out W (bgo hdr hW)
              clear hdr z0' z1 hKy1
              generalize W1.drewN nq = W4 at *
              obtain ⟨z0, z1⟩ := hKy.out W4 (Below.refl _ _)
              have hset := ownP_set hj.out hsm.out (y - 1)
              have f0 := hsm.out.frozenAt (j * 3 + 1)
              have d0 : W4.cell? ⟨g5, j * 3 + 1, none⟩ = some (.int .i64 qb) := by rw [hsm.out.cellAt _ (by omega)]; exact (pcV_get _ j (qa, qb, qc) (by rw [← hj.out]; simp)).2.1
              have s3 := Lib.hid hset.1
              have hb3 := Lib.hid (bgrow hb.out hset.2 g5B hb.out.size)
              clear hset hsm hb d1 d2
              go_wp2_with fail
              go_roundw
              case rel => exact ⟨k + 1, ini ++ [(qa, y - 1, qc)], by omega, by go_num, by rw [List.length_append, hj.out]; simp; omega, s3, hjo'.out hq2.out hq1.out, hpj, hb3⟩
              case measure => simp [intOf]; omega
            · have i9 : (qb + 1 == x) = false := by simpa using hq2
              go_upto_region 12 with (fail)
              go_quiet (fail)
              clear d1 d2 i8 i9
              have hdr := below_drewN (Below.refl W1.heap.size W1) nq
              replace hsm := Lib.hid (own_below hsm.out hdr)
              replace hb := Lib.hid (bgo hb.out hdr)
              have hKy : Hid (∀ W, Below (W1.drewN nq).heap.size (W1.drewN nq) W → W.cell? ⟨b, o + k, none⟩ = some (.int .i64 x) ∧ W.cell? ⟨b, o + (k + 1), none⟩ = some (.int .i64 y)) := fun W hW => hKy1.out W (bgo hdr hW)
              clear hdr z0' z1 hKy1
              generalize W1.drewN nq = W4 at *
              obtain ⟨z0, z1⟩ := hKy.out W4 (Below.refl _ _)
              have hlt2 : Hid (∀ j, (Value.slice (some ⟨g5, 0, none⟩) (j + 1) css).ownBlock = some j → W0.heap.size ≤ j) := fun j hj => (hsm.out.lt j hj).1
              go_upto_region 10 with (fail)
              have hb3 : True := trivial
              go_region_held3 (fun W => W.cell? ⟨b, o + k, none⟩ = some (.int .i64 x) ∧ W.cell? ⟨b, o + (k + 1), none⟩ = some (.int .i64 y)) (first | exact hKz.out _ (Hid.out hb3) | exact hKz.out _ (bgo hb.out (by (repeat (first | exact Below.refl _ _ | (refine bgo ?_ (balloc _ _)) | (refine bgo ?_ (bdrew _)) | (refine bgo ?_ (by assumption)))))))
                ((refine step_appP (by rfl) (.tmp 33) (.tmp 47) (by rfl) W0.heap.size (.slice (some ⟨g5, 0, none⟩) (j + 1) css) (j + 1) (ini ++ [(qa, qb, qc)]) (by rfl) (own_below hsm.out (by (repeat (first | exact Below.refl _ _ | (refine bgo ?_ (balloc _ _)) | (refine bgo ?_ (bdrew _)) | (refine bgo ?_ (by assumption)))))) hm.out (.slice (some ⟨W4.heap.size, 0, none⟩) 1 1) (x, y - 1, (n0 : Int)) (by rfl) ?_ (by omega) (Nat.le_trans hb.out.size (Below.size (B := W4.heap.size) (by (repeat (first | exact Below.refl _ _ | (refine bgo ?_ (balloc _ _)) | (refine bgo ?_ (bdrew _)) | (refine bgo ?_ (by assumption))))))) ?_; (· (repeat (first | (with_reducible refine Lit3.drew ?_) | (with_reducible refine Lit3.new (x, y - 1, (n0 : Int)) ?_) | (with_reducible rfl) | (simp; done)))); intro v3 w3 s3 g3; obtain ⟨A9, n9, c9, rfl⟩ := s3.shape; have hb3 := Lib.hid (bgrowO (bgo hb.out (by (repeat (first | exact Below.refl _ _ | (refine bgo ?_ (balloc _ _)) | (refine bgo ?_ (bdrew _)) | (refine bgo ?_ (by assumption)))))) g3 hlt2.out (Below.size (B := W0.heap.size) (bgo hb.out (by (repeat (first | exact Below.refl _ _ | (refine bgo ?_ (balloc _ _)) | (refine bgo ?_ (bdrew _)) | (refine bgo ?_ (by assumption))))))))))
              rename_i hHeld
              clear hHeld
              replace s3 := Lib.hid s3
              clear g3 hsm hb hlt2 hKy hKz z0 z1
              go_wp2_with fail
              go_roundw
              case rel => exact ⟨k + 1, (ini ++ [(qa, qb, qc)]) ++ [(x, y - 1, (n0 : Int))], by omega, by go_num, len_push (by rw [hm.out]; omega) _, s3, hpu, PB.push hpb.out hpbn.out, hb3⟩
              case measure => simp [intOf]; omega
          · have i8 : (qc == (n0 : Int)) = false := by simpa using hq1
            go_upto_region 12 with (fail)
            go_quiet (fail)
            clear d1 d2 i8
            have hdr := below_drewN (Below.refl W1.heap.size W1) nq
            replace hsm := Lib.hid (own_below hsm.out hdr)
            replace hb := Lib.hid (bgo hb.out hdr)
            have hKy : Hid (∀ W, Below (W1.drewN nq).heap.size (W1.drewN nq) W → W.cell? ⟨b, o + k, none⟩ = some (.int .i64 x) ∧ W.cell? ⟨b, o + (k + 1), none⟩ = some (.int .i64 y)) := fun W hW => hKy1.out W (bgo hdr hW)
            clear hdr z0' z1 hKy1
            generalize W1.drewN nq = W4 at *
            obtain ⟨z0, z1⟩ := hKy.out W4 (Below.refl _ _)
            have hlt2 : Hid (∀ j, (Value.slice (some ⟨g5, 0, none⟩) (j + 1) css).ownBlock = some j → W0.heap.size ≤ j) := fun j hj => (hsm.out.lt j hj).1
            go_upto_region 10 with (fail)
            have hb3 : True := trivial
            go_region_held3 (fun W => W.cell? ⟨b, o + k, none⟩ = some (.int .i64 x) ∧ W.cell? ⟨b, o + (k + 1), none⟩ = some (.int .i64 y)) (first | exact hKz.out _ (Hid.out hb3) | exact hKz.out _ (bgo hb.out (by (repeat (first | exact Below.refl _ _ | (refine bgo ?_ (balloc _ _)) | (refine bgo ?_ (bdrew _)) | (refine bgo ?_ (by assumption)))))))
              ((refine step_appP (by rfl) (.tmp 33) (.tmp 47) (by rfl) W0.heap.size (.slice (some ⟨g5, 0, none⟩) (j + 1) css) (j + 1) (ini ++ [(qa, qb, qc)]) (by rfl) (own_below hsm.out (by (repeat (first | exact Below.refl _ _ | (refine bgo ?_ (balloc _ _)) | (refine bgo ?_ (bdrew _)) | (refine bgo ?_ (by assumption)))))) hm.out (.slice (some ⟨W4.heap.size, 0, none⟩) 1 1) (x, y - 1, (n0 : Int)) (by rfl) ?_ (by omega) (Nat.le_trans hb.out.size (Below.size (B := W4.heap.size) (by (repeat (first | exact Below.refl _ _ | (refine bgo ?_ (balloc _ _)) | (refine bgo ?_ (bdrew _)) | (refine bgo ?_ (by assumption))))))) ?_; (· (repeat (first | (with_reducible refine Lit3.drew ?_) | (with_reducible refine Lit3.new (x, y - 1, (n0 : Int)) ?_) | (with_reducible rfl) | (simp; done)))); intro v3 w3 s3 g3; obtain ⟨A9, n9, c9, rfl⟩ := s3.shape; have hb3 := Lib.hid (bgrowO (bgo hb.out (by (repeat (first | exact Below.refl _ _ | (refine bgo ?_ (balloc _ _)) | (refine bgo ?_ (bdrew _)) | (refine bgo ?_ (by assumption)))))) g3 hlt2.out (Below.size (B := W0.heap.size) (bgo hb.out (by (repeat (first | exact Below.refl _ _ | (refine bgo ?_ (balloc _ _)) | (refine bgo ?_ (bdrew _)) | (refine bgo ?_ (by assumption))))))))))
            rename_i hHeld
            clear hHeld
            replace s3 := Lib.hid s3
            clear g3 hsm hb hlt2 hKy hKz z0 z1
            go_wp2_with fail
            go_roundw
            case rel => exact ⟨k + 1, (ini ++ [(qa, qb, qc)]) ++ [(x, y - 1, (n0 : Int))], by omega, by go_num, len_push (by rw [hm.out]; omega) _, s3, hpu, PB.push hpb.out hpbn.out, hb3⟩
            case measure => simp [intOf]; omega
    · have hke : Hid (k + 1 = cs.length) := by show _ = _; omega
      have i0 : ¬ (k : Int) + 1 < (cs.length : Int) := by omega
      go_wp2_with fail
      go_returns
      exact prof_done hC.out hi.out hke.out hol hcl2 hpb.out hs.out hz0.out (bgo hb0.out hb.out)
end Go.Proofs.Ytiiaghmdajdbbaa

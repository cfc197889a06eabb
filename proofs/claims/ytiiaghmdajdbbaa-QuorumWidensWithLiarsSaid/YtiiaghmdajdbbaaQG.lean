/- Contract of sweep.least. Conditions: that of sweep.pieces; the spans are valid, n at least 1. -/
import Derived.Test.YtiiaghmdajdbbaaQE0
namespace Go.Proofs.Ytiiaghmdajdbbaa
open Go.RowKit
set_option linter.unusedVariables false
set_option linter.unusedSimpArgs false
attribute [local go_sem ↓] Go.wp_at_zero Go.wp_at_succ
def LeastP (l : List Sp) (n : Int) (w : World) (e : Ending) (w' : World) : Prop := ∃ v out, e = .returned v ∧ OwnS w' w.heap.size v out ∧ LAll l n out ∧ out.length ≤ 128 ∧ Below w.heap.size w w'
theorem cnt_in {l : List Sp} (h : okV l = true) {t : Int} (ht : 1 ≤ cnt l t) : -1152921504606846976 ≤ t ∧ t ≤ 1152921504606846976 := by
  unfold cnt at ht
  obtain ⟨s, hs, hh⟩ := List.countP_pos_iff.1 (show 0 < l.countP (hol t) by omega)
  have := okV_each h s hs
  unfold vS at this
  unfold hol at hh
  rw [decide_eq_true_iff] at this hh
  omega
theorem len_push {α : Type} {k : Nat} {out : List α} (h : out.length ≤ k) (p : α) : (out ++ [p]).length ≤ k + 1 := by simp; omega
theorem last_split {α : Type} (l : List α) : l = [] ∨ ∃ ini q, l = ini ++ [q] := by
  rcases List.eq_nil_or_concat l with h | ⟨a, b, h⟩
  · exact .inl h
  · exact .inr ⟨a, b, by rw [h, List.concat_eq_append]⟩
theorem least_done {l : List Sp} {n : Int} {w w' : World} {v : Value} {ps : List (Int × Int × Int)} {k : Nat} {out : List Sp} {B : Nat} (hA : PAll l ps) (hi : LInv l n ps k out) (hk : k = ps.length) (h1 : 1 ≤ n) (hl : out.length ≤ k) (hp : ps.length ≤ 128) (ho : OwnS w' B v out) (hB : w.heap.size ≤ B) (hb : Below w.heap.size w w') : LeastP l n w (.returned v) w' := by
  subst hk
  exact ⟨v, out, rfl, row_mono ho hB, hi.all hA h1, by omega, hb⟩
theorem ownS_push {W : World} {base m : Nat} {v : Value} {out : List Sp} {p : Sp} (hm : out.length = m) (h : W.ownsRow base 28 2 v (m + 1) (spV out ++ [.int .i64 p.1, .int .i64 p.2])) : OwnS W base v (out ++ [p]) := by
  unfold OwnS
  rw [spV_append, List.length_append, hm]
  exact h
theorem ownS_set {W : World} {base j g cap : Nat} {ini : List Sp} {q : Sp} (hj : ini.length = j) (h : W.ownsRow base 28 2 (.slice (some ⟨g, 0, none⟩) (j + 1) cap) (j + 1) (spV (ini ++ [q]))) (x : Int) :
    OwnS (W.setCell ⟨g, j * 2 + 1, none⟩ (.int .i64 x)) base (.slice (some ⟨g, 0, none⟩) (j + 1) cap) (ini ++ [(q.1, x)]) ∧ W.grownBy (W.setCell ⟨g, j * 2 + 1, none⟩ (.int .i64 x)) (some g) := by
  have := h.stored (j * 2 + 1) (.int .i64 x)
  unfold OwnS
  rw [← spV_set, List.length_append, hj]
  exact this
set_option maxRecDepth 100000 in
set_option maxHeartbeats 4000000 in
theorem least_any (B : Nat) (u : Value) (l : List Sp) (n : Int) (w : World) (hu : SeesS w B u l) (hB : B ≤ w.heap.size) (hn : l.length ≤ 64) (hok : okV l = true) (h1 : 1 ≤ n) (h2 : n ≤ 1000)
    (hpc : Calls Try.prog 64 #[u] w (PiecesP l w)) :
    Calls Try.prog 47 #[u, .int .i64 n] w (LeastP l n w) := by
  obtain ⟨A, c, rfl, -, -⟩ := hu.mk_
  obtain ⟨ti, hti, htz, hts, htb⟩ := info_parts span_info
  replace hti := Lib.hid hti
  replace htz := Lib.hid htz
  replace hts := Lib.hid hts
  replace htb := Lib.hid htb
  replace hpc := Lib.hid hpc
  replace hok := Lib.hid hok
  clear hu
  go_enter Try.func47, Try.ntmps47
  go_wp2_with fail
  refine hpc.out.mono ?_
  rintro e W0 ⟨v, ps, rfl, hs, hA, hpl, hpb, hb0⟩
  obtain ⟨Ap, cp, rfl, -, -⟩ := SeesP.mk_ (Sees.of_own hs)
  have hsP : Hid (SeesP W0 W0.heap.size (.slice Ap ps.length cp) ps) := Sees.of_own hs
  replace hpb := Lib.hid hpb
  replace hA := Lib.hid hA
  have hz0 : Hid (w.heap.size ≤ W0.heap.size) := hb0.size
  replace hb0 := Lib.hid hb0
  clear hs hpc
  dsimp only
  go_wp2_with fail
  go_loopw [5, 7, 8, 12] (fun s _ _ i wr => ∃ (k : Nat) (out : List Sp), k ≤ ps.length ∧ i = .int .i64 k ∧ out.length ≤ k ∧ Hid (OwnS wr W0.heap.size s out) ∧ Hid (LInv l n ps k out) ∧ Hid (Below W0.heap.size W0 wr)) (fun _ _ _ i _ => ps.length - (intOf i).toNat)
  case atStart => exact ⟨0, [], by omega, rfl, by simp, World.ownsRow_nil _ _ _ _, LInv.start, Below.refl _ _⟩
  case round =>
    obtain ⟨k, out, hk, rfl, hol, hs, hi, hb⟩ := hrel
    obtain ⟨As, cs, rfl, -, -⟩ := (Sees.of_own hs.out).mk_
    have hbw : Hid (Below w.heap.size w wr) := bgo hb0.out hb.out
    by_cases hlt : k < ps.length
    · obtain ⟨b, o, rfl, hbB, hds⟩ := SeesP.at_ (Sees.below hsP.out hb.out) (by omega)
      obtain ⟨p, hp⟩ : ∃ p, ps[k]? = some p := ⟨_, List.getElem?_eq_getElem hlt⟩
      obtain ⟨c0, c1, c2⟩ := hds k p hp
      have hpm := hpb.out p (List.mem_of_getElem? hp)
      have hpo := hA.out.2.1 p (List.mem_of_getElem? hp)
      have hpcn := hpo.2 p.1 (Int.le_refl _) hpo.1
      have hple := hpo.1
      have hsk : Hid (p.2.2 < n → LInv l n ps (k + 1) out) := fun h => hi.out.skip hp h
      have hpu : Hid (n ≤ p.2.2 → LInv l n ps (k + 1) (out ++ [(p.1, p.2.1)])) := fun h => hi.out.push hA.out hp h
      have hjo : Hid (∀ ini q, out = ini ++ [q] → n ≤ p.2.2 → q.2 + 1 = p.1 → LInv l n ps (k + 1) (ini ++ [(q.1, p.2.1)])) := fun ini q e h h' => LInv.join hA.out (e ▸ hi.out) hp h h'
      have hqb : Hid (∀ ini q, out = ini ++ [q] → -1152921504606846976 ≤ q.2 ∧ q.2 < p.1) := fun ini q e => by
        have hq := hi.out.2.1 q (by rw [e]; simp)
        have := cnt_in hok.out (t := q.2) (by have := hq.2.2 q.2 hq.1 (Int.le_refl _); omega)
        exact ⟨this.1, hq.2.1 k p (Nat.le_refl _) hp⟩
      obtain ⟨lo, hi', ct⟩ := p
      dsimp only at c0 c1 c2 hpm hsk hpu hjo hqb hpcn hple
      obtain ⟨m1, m2, m3⟩ := hpm
      have m0 : 0 ≤ ct := by omega
      have i0 : (k : Int) < (ps.length : Int) := by omega
      have i1 : (0 : Int) ≤ (k : Int) := by omega
      have x7 := Box.new wr 89 [.int .i64 lo, .int .i64 hi', .int .i64 ct]
      change Box (wr.alloc (.cells #[.int .i64 lo, .int .i64 hi', .int .i64 ct] 89)) _ _ _ at x7
      have hal := Lib.hid (balloc wr (.cells #[.int .i64 lo, .int .i64 hi', .int .i64 ct] 89))
      replace hs := Lib.hid (hs.out.below hal.out)
      replace hb := Lib.hid (bgo hb.out hal.out)
      replace hbw := Lib.hid (bgo hbw.out hal.out)
      replace hp := Lib.hid hp
      clear hds hpcn hpo hi hal
      go_upto_region 5 with (fail)
      generalize wr.alloc (.cells #[.int .i64 lo, .int .i64 hi', .int .i64 ct] 89) = W1 at *
      generalize wr.heap.size = g7 at *
      have y0 : W1.cell? ⟨g7, 0, none⟩ = some (.int .i64 lo) := x7.cell 0
      have y1 : W1.cell? ⟨g7, 1, none⟩ = some (.int .i64 hi') := x7.cell 1
      have y2 : W1.cell? ⟨g7, 2, none⟩ = some (.int .i64 ct) := x7.cell 2
      clear c0 c1 c2
      by_cases hc : ct < n
      · replace hsk := Lib.hid (hsk.out hc)
        clear hpu hjo hqb
        go_wp2_with fail
        go_roundw
        case rel => exact ⟨k + 1, out, by omega, by go_num, by omega, hs, hsk, hb⟩
        case measure => simp [intOf]; omega
      · replace hpu := Lib.hid (hpu.out (by omega))
        clear hsk
        go_upto_region 7 with (fail)
        obtain ⟨m, hm⟩ : ∃ m, out.length = m := ⟨_, rfl⟩
        have hsm : Hid (W1.ownsRow W0.heap.size 28 2 (.slice As m cs) m (spV out)) := by show World.ownsRow _ _ _ _ _ _ _; rw [← hm]; exact hs.out
        rw [hm] at hol ⊢
        clear hs
        rcases last_split out with rfl | ⟨ini, q, rfl⟩
        · obtain rfl : m = 0 := by simpa using hm.symm
          rw [show ((0 : Nat) : Int) = 0 from rfl]
          replace hm := Lib.hid hm
          clear hjo hqb
          go_quiet (fail)
          have hdr := below_drewN (Below.refl W1.heap.size W1) nq
          replace hsm := Lib.hid (own_below hsm.out hdr)
          replace x7 := x7.below hdr
          replace hb := Lib.hid (bgo hb.out hdr)
          replace hbw := Lib.hid (bgo hbw.out hdr)
          clear hdr y0 y1 y2
          generalize W1.drewN nq = W2 at *
          have y0 : W2.cell? ⟨g7, 0, none⟩ = some (.int .i64 lo) := x7.cell 0
          have y1 : W2.cell? ⟨g7, 1, none⟩ = some (.int .i64 hi') := x7.cell 1
          have hrec : Hid (Sees (W2.alloc (.cells #[.int .i64 lo, .int .i64 hi'] 28)) (W2.heap.size + 1) (.slice (some ⟨W2.heap.size, 0, none⟩) 1 1) 2 1 [.int .i64 lo, .int .i64 hi']) := rec_lit W2 28 [.int .i64 lo, .int .i64 hi']
          have hal := balloc W2 (.cells #[.int .i64 lo, .int .i64 hi'] 28)
          replace hsm := Lib.hid (own_below hsm.out hal)
          replace hb := Lib.hid (bgo hb.out hal)
          replace hbw := Lib.hid (bgo hbw.out hal)
          have hzz : Hid (W0.heap.size ≤ (W2.alloc (.cells #[.int .i64 lo, .int .i64 hi'] 28)).heap.size) := hb.out.size
          have hlt2 : Hid (∀ j, (Value.slice As (0) cs).ownBlock = some j → W0.heap.size ≤ j) := fun j hj => (hsm.out.lt j hj).1
          clear hal x7
          go_wp2_with (at_builtin; refine wpList_append_sees (by rfl) _ _ 24 rfl W0.heap.size 28 ti _ 2 16 Try.underlying24 hti.out htz.out hts.out htb.out rfl (by omega) _ (0) _ rfl hsm.out _ _ 1 _ rfl hrec.out (by simp [Value.oneCell']) (by unfold maxLen; omega) (by omega) hzz.out ?_)
          intro v3 w3 s3 g3 d3
          replace s3 := Lib.hid (ownS_push (p := (lo, hi')) hm.out s3)
          have hb3 := Lib.hid (bgrowO hb.out g3 hlt2.out hzz.out)
          clear g3 d3 hsm hrec y0 y1 hzz hlt2 hb hbw
          go_wp2_with fail
          go_roundw
          case rel => exact ⟨k + 1, [] ++ [(lo, hi')], by omega, by go_num, len_push (by rw [hm.out]; omega) _, s3, hpu, hb3⟩
          case measure => simp [intOf]; omega
        · obtain ⟨j, hj⟩ : ∃ j, ini.length = j := ⟨_, rfl⟩
          obtain rfl : m = j + 1 := by rw [List.length_append, hj] at hm; simpa using hm.symm
          obtain ⟨q1, q2⟩ := hqb.out ini q rfl
          have hjo' := hjo.out ini q rfl (by omega)
          obtain ⟨g5, c5, e5, g5B, g5l, -, -, hc5⟩ := own_form hsm.out (by omega)
          injection e5 with e5 _ e5'
          subst e5 e5'
          have d0 : W1.cell? ⟨g5, j * 2 + 1, none⟩ = some (.int .i64 q.2) := hc5 _ _ (spV_get _ j q (by rw [← hj]; simp)).2
          have f0 := hsm.out.frozenAt (j * 2 + 1)
          obtain ⟨qa, qb⟩ := q
          dsimp only at q1 q2 hjo' d0
          replace hjo' := Lib.hid hjo'
          have e1 : IntKind.i64.wrap (((j + 1 : Nat) : Int) - 1) = (j : Int) := by rw [IntKind.wrap_i64]; omega
          have e2 : IntKind.i64.wrap (qb + 1) = qb + 1 := by rw [IntKind.wrap_i64]; omega
          have i2 : (0 : Int) ≤ (j : Int) := by omega
          have i3 : (j : Int) < ((j + 1 : Nat) : Int) := by omega
          have i4 : (0 : Int) < ((j + 1 : Nat) : Int) := by omega
          replace hm := Lib.hid hm
          replace hj := Lib.hid hj
          clear hjo hqb hc5
          by_cases hq : qb + 1 = lo
          · have i5 : (qb + 1 == lo) = true := by rw [hq]; simp
            go_quiet (fail)
            have hdr := below_drewN (Below.refl W1.heap.size W1) nq
            replace hsm := Lib.hid (own_below hsm.out hdr)
            replace x7 := x7.below hdr
            replace hb := Lib.hid (bgo hb.out hdr)
            replace hbw := Lib.hid (bgo hbw.out hdr)
            clear hdr y0 y1 y2
            generalize W1.drewN nq = W2 at *
            have y0 : W2.cell? ⟨g7, 0, none⟩ = some (.int .i64 lo) := x7.cell 0
            have y1 : W2.cell? ⟨g7, 1, none⟩ = some (.int .i64 hi') := x7.cell 1
            have hset := ownS_set hj.out hsm.out hi'
            have f0 := hsm.out.frozenAt (j * 2 + 1)
            have d0 : W2.cell? ⟨g5, j * 2 + 1, none⟩ = some (.int .i64 qb) := by rw [hsm.out.cellAt _ (by omega)]; exact (spV_get _ j (qa, qb) (by rw [← hj.out]; simp)).2
            have s3 := Lib.hid hset.1
            have hb3 := Lib.hid (bgrow hb.out hset.2 g5B hb.out.size)
            clear hset x7 hsm hb hbw
            go_wp2_with fail
            go_roundw
            case rel => exact ⟨k + 1, ini ++ [(qa, hi')], by omega, by go_num, by rw [List.length_append, hj.out]; simp; omega, s3, hjo'.out hq, hb3⟩
            case measure => simp [intOf]; omega
          · have i5 : (qb + 1 == lo) = false := by simpa using hq
            go_quiet (fail)
            clear d0 f0
            have hdr := below_drewN (Below.refl W1.heap.size W1) nq
            replace hsm := Lib.hid (own_below hsm.out hdr)
            replace x7 := x7.below hdr
            replace hb := Lib.hid (bgo hb.out hdr)
            replace hbw := Lib.hid (bgo hbw.out hdr)
            clear hdr y0 y1 y2
            generalize W1.drewN nq = W2 at *
            have y0 : W2.cell? ⟨g7, 0, none⟩ = some (.int .i64 lo) := x7.cell 0
            have y1 : W2.cell? ⟨g7, 1, none⟩ = some (.int .i64 hi') := x7.cell 1
            have hrec : Hid (Sees (W2.alloc (.cells #[.int .i64 lo, .int .i64 hi'] 28)) (W2.heap.size + 1) (.slice (some ⟨W2.heap.size, 0, none⟩) 1 1) 2 1 [.int .i64 lo, .int .i64 hi']) := rec_lit W2 28 [.int .i64 lo, .int .i64 hi']
            have hal := balloc W2 (.cells #[.int .i64 lo, .int .i64 hi'] 28)
            replace hsm := Lib.hid (own_below hsm.out hal)
            replace hb := Lib.hid (bgo hb.out hal)
            replace hbw := Lib.hid (bgo hbw.out hal)
            have hzz : Hid (W0.heap.size ≤ (W2.alloc (.cells #[.int .i64 lo, .int .i64 hi'] 28)).heap.size) := hb.out.size
            have hlt2 : Hid (∀ j, (Value.slice (some ⟨g5, 0, none⟩) (j + 1) cs).ownBlock = some j → W0.heap.size ≤ j) := fun j hj => (hsm.out.lt j hj).1
            clear hal x7
            go_wp2_with (at_builtin; refine wpList_append_sees (by rfl) _ _ 24 rfl W0.heap.size 28 ti _ 2 16 Try.underlying24 hti.out htz.out hts.out htb.out rfl (by omega) _ (j + 1) _ rfl hsm.out _ _ 1 _ rfl hrec.out (by simp [Value.oneCell']) (by unfold maxLen; omega) (by omega) hzz.out ?_)
            intro v3 w3 s3 g3 d3
            replace s3 := Lib.hid (ownS_push (p := (lo, hi')) hm.out s3)
            have hb3 := Lib.hid (bgrowO hb.out g3 hlt2.out hzz.out)
            clear g3 d3 hsm hrec y0 y1 hzz hlt2 hb hbw
            go_wp2_with fail
            go_roundw
            case rel => exact ⟨k + 1, (ini ++ [(qa, qb)]) ++ [(lo, hi')], by omega, by go_num, len_push (by rw [hm.out]; omega) _, s3, hpu, hb3⟩
            case measure => simp [intOf]; omega
    · obtain rfl : k = ps.length := by omega
      have i0 : ¬ (ps.length : Int) < (ps.length : Int) := by omega
      go_wp2_with fail
      go_returns
      exact least_done hA.out hi.out rfl h1 hol hpl hs.out hz0.out hbw.out
end Go.Proofs.Ytiiaghmdajdbbaa

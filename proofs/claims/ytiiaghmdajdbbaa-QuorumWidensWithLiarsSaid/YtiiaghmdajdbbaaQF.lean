/- Contract of sweep.pieces. Conditions: that of sweep.events; the spans are valid. -/
import Derived.Test.YtiiaghmdajdbbaaQG
namespace Go.Proofs.Ytiiaghmdajdbbaa
open Go.RowKit
set_option linter.unusedVariables false
set_option linter.unusedSimpArgs false
attribute [local go_sem ↓] Go.wp_at_zero Go.wp_at_succ
theorem ownP_push {W : World} {base m : Nat} {v : Value} {out : List (Int × Int × Int)} {p : Int × Int × Int} (hm : out.length = m) (h : W.ownsRow base 89 3 v (m + 1) (pcV out ++ [.int .i64 p.1, .int .i64 p.2.1, .int .i64 p.2.2])) : OwnP W base v (out ++ [p]) := by
  unfold OwnP
  rw [pcV_append, List.length_append, hm]
  exact h
theorem ownP_set {W : World} {base j g cap : Nat} {ini : List (Int × Int × Int)} {q : Int × Int × Int} (hj : ini.length = j) (h : W.ownsRow base 89 3 (.slice (some ⟨g, 0, none⟩) (j + 1) cap) (j + 1) (pcV (ini ++ [q]))) (x : Int) :
    OwnP (W.setCell ⟨g, j * 3 + 1, none⟩ (.int .i64 x)) base (.slice (some ⟨g, 0, none⟩) (j + 1) cap) (ini ++ [(q.1, x, q.2.2)]) ∧ W.grownBy (W.setCell ⟨g, j * 3 + 1, none⟩ (.int .i64 x)) (some g) := by
  have := h.stored (j * 3 + 1) (.int .i64 x)
  unfold OwnP
  rw [← pcV_set, List.length_append, hj]
  exact this
def PB (ps : List (Int × Int × Int)) : Prop := ∀ p ∈ ps, -1152921504606846976 ≤ p.1 ∧ p.2.1 ≤ 1152921504606846976 ∧ p.2.2 ≤ 128
theorem PB.push {ps : List (Int × Int × Int)} (h : PB ps) {p : Int × Int × Int} (hp : -1152921504606846976 ≤ p.1 ∧ p.2.1 ≤ 1152921504606846976 ∧ p.2.2 ≤ 128) : PB (ps ++ [p]) := by
  intro q hq
  rcases List.mem_append.1 hq with hq | hq
  · exact h q hq
  · rw [List.mem_singleton] at hq; subst hq; exact hp
theorem PB.join {ini : List (Int × Int × Int)} {q : Int × Int × Int} (h : PB (ini ++ [q])) {x : Int} (hx : x ≤ 1152921504606846976) : PB (ini ++ [(q.1, x, q.2.2)]) :=
  PB.push (fun p hp => h p (by simp [hp])) ⟨(h q (by simp)).1, hx, (h q (by simp)).2.2⟩
theorem pieces_done {l : List Sp} {w w' : World} {v : Value} {ps : List (Int × Int × Int)} {d : List (Int × Int)} {B : Nat} (hi : PI l d d.length ps) (hl : ps.length ≤ d.length) (hd : d.length ≤ 128) (hb : PB ps) (ho : OwnP w' B v ps) (hB : w.heap.size ≤ B) (hbw : Below w.heap.size w w') : PiecesP l w (.returned v) w' :=
  ⟨v, ps, rfl, row_mono ho hB, hi.2 rfl, by omega, hb, hbw⟩
set_option maxRecDepth 100000 in
set_option maxHeartbeats 8000000 in
theorem pieces_any (B : Nat) (u : Value) (l : List Sp) (w : World) (hu : SeesS w B u l) (hB : B ≤ w.heap.size) (hn : l.length ≤ 64) (hok : okV l = true)
    (hev : Calls Try.prog 74 #[u] w (EvP l w)) :
    Calls Try.prog 64 #[u] w (PiecesP l w) := by
  obtain ⟨A, c, rfl, -, -⟩ := hu.mk_
  obtain ⟨ti, hti, htz, hts, htb⟩ := info_parts piece_info
  replace hti := Lib.hid hti
  replace htz := Lib.hid htz
  replace hts := Lib.hid hts
  replace htb := Lib.hid htb
  replace hev := Lib.hid hev
  replace hok := Lib.hid hok
  clear hu
  go_enter Try.func64, Try.ntmps64
  go_wp2_with fail
  refine hev.out.mono ?_
  rintro e W0 ⟨v, d, rfl, hs, hE, hb0⟩
  obtain ⟨Ap, cp, rfl, -, -⟩ := SeesS.mk_ (Sees.of_own hs)
  have hsP : Hid (SeesS W0 W0.heap.size (.slice Ap d.length cp) d) := Sees.of_own hs
  have hdl : d.length ≤ 128 := by rw [hE.len]; omega
  have hea := Lib.hid (hE.each hok.out)
  have hbd := Lib.hid (byS_bound (d := d) (fun e he => (hea.out e he).1))
  have hend := Lib.hid (byS_end hE hok.out)
  have hst := Lib.hid (PI.start hE hok.out)
  replace hE := Lib.hid hE
  have hz0 : Hid (w.heap.size ≤ W0.heap.size) := hb0.size
  replace hb0 := Lib.hid hb0
  clear hs hev
  dsimp only
  go_wp2_with fail
  go_loopw [3, 5, 6, 7, 8, 9, 14] (fun s ct _ _ _ _ i wr => ∃ (k : Nat) (c0 : Int) (out : List (Int × Int × Int)), k ≤ d.length ∧ i = .int .i64 k ∧ ct = .int .i64 c0 ∧ Hid (byS d k = c0) ∧ out.length ≤ k ∧ Hid (OwnP wr W0.heap.size s out) ∧ Hid (PI l d k out) ∧ Hid (PB out) ∧ Hid (Below W0.heap.size W0 wr)) (fun _ _ _ _ _ _ i _ => d.length - (intOf i).toNat)
  case atStart => exact ⟨0, 0, [], by omega, rfl, rfl, rfl, by simp, World.ownsRow_nil _ _ _ _, hst.out, (fun p hp => absurd hp (by simp)), Below.refl _ _⟩
  case round =>
    obtain ⟨k, c0, out, hk, rfl, rfl, hc0, hol, hs, hi, hpb, hb⟩ := hrel
    obtain ⟨As, cs, rfl, -, -⟩ := (Sees.of_own hs.out).mk_
    have hbw : Hid (Below w.heap.size w wr) := bgo hb0.out hb.out
    by_cases hlt : k < d.length
    · obtain ⟨b, o, rfl, hbB, hds⟩ := SeesS.at_ (Sees.below hsP.out hb.out) (by omega)
      obtain ⟨e, he⟩ : ∃ e, d[k]? = some e := ⟨_, List.getElem?_eq_getElem hlt⟩
      obtain ⟨c0', c1'⟩ := hds k e he
      have hem := hea.out e (List.mem_of_getElem? he)
      have hsucc := byS_succ he
      rw [hc0.out] at hsucc
      have hbk := hbd.out k
      rw [hc0.out] at hbk
      have hE' := hE.out
      have hok' := hok.out
      obtain ⟨at', by'⟩ := e
      dsimp only at c0' c1' hem hsucc
      obtain ⟨hby, ha1, ha2⟩ := hem
      have i0 : (k : Int) < (d.length : Int) := by omega
      have i1 : (0 : Int) ≤ (k : Int) := by omega
      have x7 := Box.new wr 102 [.int .i64 at', .int .i64 by']
      change Box (wr.alloc (.cells #[.int .i64 at', .int .i64 by'] 102)) _ _ _ at x7
      have hal := Lib.hid (balloc wr (.cells #[.int .i64 at', .int .i64 by'] 102))
      have hsE : Hid (SeesS (wr.alloc (.cells #[.int .i64 at', .int .i64 by'] 102)) W0.heap.size (.slice (some ⟨b, o, none⟩) d.length cp) d) := Sees.below hsP.out (hb.out.trans (hal.out.mono hb.out.size))
      replace hs := Lib.hid (own_below hs.out hal.out)
      replace hb := Lib.hid (bgo hb.out hal.out)
      replace hbw := Lib.hid (bgo hbw.out hal.out)
      replace hsucc := Lib.hid hsucc
      clear hds hal
      replace he := Lib.hid he
      replace hE' := Lib.hid hE'
      replace hok' := Lib.hid hok'
      go_upto_region 7 with (fail)
      generalize wr.alloc (.cells #[.int .i64 at', .int .i64 by'] 102) = W1 at *
      generalize wr.heap.size = g7 at *
      have y0 : W1.cell? ⟨g7, 0, none⟩ = some (.int .i64 at') := x7.cell 0
      have y1 : W1.cell? ⟨g7, 1, none⟩ = some (.int .i64 by') := x7.cell 1
      clear c0' c1'
      have hbyb : -1 ≤ by' ∧ by' ≤ 1 := by omega
      obtain ⟨hbya, hbyc⟩ := hbyb
      replace hby := Lib.hid hby
      obtain ⟨c1, hc1⟩ : ∃ c1, c0 + by' = c1 := ⟨_, rfl⟩
      have hc1b : -129 ≤ c1 ∧ c1 ≤ 129 := by omega
      obtain ⟨hc1a, hc1c⟩ := hc1b
      have hcn : Hid (byS d (k + 1) = c1) := by show _ = _; rw [hsucc.out, hc1]
      go_upto_region 8 with (fail)
      replace hc1 := Lib.hid hc1
      have e1 : IntKind.i64.wrap ((k : Int) + 1) = (k : Int) + 1 := by rw [IntKind.wrap_i64]; omega
      have e2 : ((k : Int) + 1).toNat = k + 1 := by omega
      have e3 : (0 : Int) ≤ (k : Int) + 1 := by omega
      by_cases hz : c1 = 0
      · have hnew : Hid (PI l d (k + 1) out) := by
          rcases Nat.lt_or_ge (k + 1) d.length with h | h
          · exact PI.zero hE'.out hok'.out he.out (List.getElem?_eq_getElem h) (hcn.out.trans hz) hi.out
          · exact PI.last hE'.out hok'.out he.out (by omega) hi.out
        have i5 : (c1 == 0) = true := by simpa using hz
        go_quiet (fail)
        clear e1 e2 e3
        have hdr := below_drewN (Below.refl W1.heap.size W1) nq
        replace hs := Lib.hid (own_below hs.out hdr)
        replace x7 := x7.below hdr
        replace hsE := Lib.hid (SeesS.below hsE.out (hdr.mono hb.out.size))
        replace hb := Lib.hid (bgo hb.out hdr)
        replace hbw := Lib.hid (bgo hbw.out hdr)
        clear hdr y0 y1
        generalize W1.drewN nq = W2 at *
        go_wp2_with fail
        go_roundw
        case rel => exact ⟨k + 1, c1, out, by omega, by go_num, rfl, hcn, by omega, hs, hnew, hpb, hb⟩
        case measure => simp [intOf]; omega
      · have hlt2 : k + 1 < d.length := by
          rcases Nat.lt_or_ge (k + 1) d.length with h | h
          · exact h
          · exfalso
            have hkd : k + 1 = d.length := by omega
            have h9 := hend.out
            rw [← hkd] at h9
            exact hz (hcn.out.symm.trans h9)
        have i5 : (c1 == 0) = false := by simpa using hz
        have i6 : ((k : Int) + 1 == (d.length : Int)) = false := by rw [beq_eq_false_iff_ne]; omega
        have i7 : (k : Int) + 1 < (d.length : Int) := by omega
        obtain ⟨e', he'⟩ : ∃ e', d[k + 1]? = some e' := ⟨_, List.getElem?_eq_getElem hlt2⟩
        have hem' := hea.out e' (List.mem_of_getElem? he')
        have hle := hE'.out.le he.out he' (by omega)
        have hsame : Hid (e'.1 = at' → PI l d (k + 1) out) := fun h => PI.same hE'.out he.out he' h hi.out
        have hpush : Hid (e'.1 ≠ at' → PI l d (k + 1) (out ++ [(at', e'.1 - 1, c1)])) := fun h => by have := PI.push hE'.out hok'.out he.out he' h hi.out; rw [hcn.out] at this; exact this
        have hjoin : Hid (∀ ini q, out = ini ++ [q] → e'.1 ≠ at' → q.2.1 + 1 = at' → q.2.2 = c1 → PI l d (k + 1) (ini ++ [(q.1, e'.1 - 1, q.2.2)])) := fun ini q e h h1 h2 => PI.join hE'.out hok'.out he.out he' h h1 (h2.trans hcn.out.symm) (e ▸ hi.out)
        obtain ⟨b2, o2, e9, -, hds⟩ := SeesS.at_ hsE.out (by omega)
        cases e9
        have z0 := (hds (k + 1) e' he').1
        obtain ⟨at2, by2⟩ := e'
        dsimp only at z0 hem' hle hsame hpush hjoin
        obtain ⟨-, ha3, ha4⟩ := hem'
        have hc1d : c1 ≤ 128 := by have := hbd.out (k + 1); rw [hcn.out] at this; omega
        have hqb : Hid (∀ ini q, out = ini ++ [q] → -1152921504606846976 ≤ q.2.1 ∧ q.2.1 < at') := fun ini q e => by
          have h3 := (hi.out.1 _ he.out).2.1 q (by rw [e]; simp)
          have h4 := hpb.out q (by rw [e]; simp)
          exact ⟨by omega, h3.2.1⟩
        clear hds
        replace he' := Lib.hid he'
        by_cases hq : at2 = at'
        · have i8 : (at2 == at') = true := by simpa using hq
          replace hsame := Lib.hid (hsame.out hq)
          clear hpush hjoin
          go_quiet (fail)
          clear e1 e2 e3 z0
          have hdr := below_drewN (Below.refl W1.heap.size W1) nq
          replace hs := Lib.hid (own_below hs.out hdr)
          replace x7 := x7.below hdr
          replace hsE := Lib.hid (SeesS.below hsE.out (hdr.mono hb.out.size))
          replace hb := Lib.hid (bgo hb.out hdr)
          replace hbw := Lib.hid (bgo hbw.out hdr)
          clear hdr y0 y1
          generalize W1.drewN nq = W2 at *
          go_wp2_with fail
          go_roundw
          case rel => exact ⟨k + 1, c1, out, by omega, by go_num, rfl, hcn, by omega, hs, hsame, hpb, hb⟩
          case measure => simp [intOf]; omega
        · have i8 : (at2 == at') = false := by simpa using hq
          replace hpush := Lib.hid (hpush.out hq)
          clear hsame
          go_quiet (fail)
          clear i5 i6 i8 z0
          have hdr := below_drewN (Below.refl W1.heap.size W1) nq
          replace hs := Lib.hid (own_below hs.out hdr)
          replace x7 := x7.below hdr
          replace hsE := Lib.hid (SeesS.below hsE.out (hdr.mono hb.out.size))
          replace hb := Lib.hid (bgo hb.out hdr)
          replace hbw := Lib.hid (bgo hbw.out hdr)
          clear hdr y0 y1
          generalize W1.drewN nq = W2 at *
          have y0 : W2.cell? ⟨g7, 0, none⟩ = some (.int .i64 at') := x7.cell 0
          obtain ⟨b3, o3, e9, -, hds⟩ := SeesS.at_ hsE.out (by omega)
          cases e9
          have z0 := (hds (k + 1) _ he'.out).1
          dsimp only at z0
          clear hds
          have e4 : IntKind.i64.wrap (at2 - 1) = at2 - 1 := by rw [IntKind.wrap_i64]; omega
          go_upto_region 9 with (fail)
          go_region_held3 (fun W => W.cell? ⟨g7, 0, none⟩ = some (.int .i64 at') ∧ W.cell? ⟨b, o + (k + 1) * 2, none⟩ = some (.int .i64 at2)) (go_keep) (fail)
          rename_i hHeld
          clear hHeld
          go_upto_region 11 with (fail)
          have x8 : Box (W2.alloc (.cells #[.int .i64 at', .int .i64 (at2 - 1), .int .i64 c1] 89)).drew W2.heap.size 89 [.int .i64 at', .int .i64 (at2 - 1), .int .i64 c1] := (Box.new W2 89 [.int .i64 at', .int .i64 (at2 - 1), .int .i64 c1]).below (bdrew _)
          have hal := bgo (balloc W2 (.cells #[.int .i64 at', .int .i64 (at2 - 1), .int .i64 c1] 89)) (bdrew _)
          replace hs := Lib.hid (own_below hs.out hal)
          replace x7 := x7.below hal
          replace hb := Lib.hid (bgo hb.out hal)
          replace hbw := Lib.hid (bgo hbw.out hal)
          have hpbn : Hid (-1152921504606846976 ≤ at' ∧ at2 - 1 ≤ 1152921504606846976 ∧ c1 ≤ 128) := by show _ ∧ _; omega
          clear hal hsE y0 z0
          generalize (W2.alloc (.cells #[.int .i64 at', .int .i64 (at2 - 1), .int .i64 c1] 89)).drew = W3 at *
          generalize W2.heap.size = g8 at *
          have y0 : W3.cell? ⟨g7, 0, none⟩ = some (.int .i64 at') := x7.cell 0
          have z0 : W3.cell? ⟨g8, 0, none⟩ = some (.int .i64 at') := x8.cell 0
          have z1 : W3.cell? ⟨g8, 1, none⟩ = some (.int .i64 (at2 - 1)) := x8.cell 1
          have z2 : W3.cell? ⟨g8, 2, none⟩ = some (.int .i64 c1) := x8.cell 2
          clear x7 e1 e2 e3 e4 i7
          obtain ⟨m, hm⟩ : ∃ m, out.length = m := ⟨_, rfl⟩
          have hsm : Hid (W3.ownsRow W0.heap.size 89 3 (.slice As m cs) m (pcV out)) := by show World.ownsRow _ _ _ _ _ _ _; rw [← hm]; exact hs.out
          rw [hm] at hol ⊢
          clear hs
          rcases last_split out with rfl | ⟨ini, q, rfl⟩
          · obtain rfl : m = 0 := by simpa using hm.symm
            rw [show ((0 : Nat) : Int) = 0 from rfl]
            replace hm := Lib.hid hm
            clear hjoin hqb
            go_quiet (fail)
            have hdr := below_drewN (Below.refl W3.heap.size W3) nq
            replace hsm := Lib.hid (own_below hsm.out hdr)
            replace x8 := x8.below hdr
            replace hb := Lib.hid (bgo hb.out hdr)
            replace hbw := Lib.hid (bgo hbw.out hdr)
            clear hdr y0 z0 z1 z2
            generalize W3.drewN nq = W4 at *
            have z0 : W4.cell? ⟨g8, 0, none⟩ = some (.int .i64 at') := x8.cell 0
            have z1 : W4.cell? ⟨g8, 1, none⟩ = some (.int .i64 (at2 - 1)) := x8.cell 1
            have z2 : W4.cell? ⟨g8, 2, none⟩ = some (.int .i64 c1) := x8.cell 2
            have hrec : Hid (Sees (W4.alloc (.cells #[.int .i64 at', .int .i64 (at2 - 1), .int .i64 c1] 89)) (W4.heap.size + 1) (.slice (some ⟨W4.heap.size, 0, none⟩) 1 1) 3 1 [.int .i64 at', .int .i64 (at2 - 1), .int .i64 c1]) := rec_lit W4 89 [.int .i64 at', .int .i64 (at2 - 1), .int .i64 c1]
            have hal := balloc W4 (.cells #[.int .i64 at', .int .i64 (at2 - 1), .int .i64 c1] 89)
            replace hsm := Lib.hid (own_below hsm.out hal)
            replace hb := Lib.hid (bgo hb.out hal)
            replace hbw := Lib.hid (bgo hbw.out hal)
            have hzz : Hid (W0.heap.size ≤ (W4.alloc (.cells #[.int .i64 at', .int .i64 (at2 - 1), .int .i64 c1] 89)).heap.size) := hb.out.size
            have hlt2 : Hid (∀ j, (Value.slice As (0) cs).ownBlock = some j → W0.heap.size ≤ j) := fun j hj => (hsm.out.lt j hj).1
            clear hal x8
            go_wp2_with (at_builtin; refine wpList_append_sees (by rfl) _ _ 69 rfl W0.heap.size 89 ti _ 3 24 Try.underlying69 hti.out htz.out hts.out htb.out rfl (by omega) _ (0) _ rfl hsm.out _ _ 1 _ rfl hrec.out (by simp [Value.oneCell']) (by unfold maxLen; omega) (by omega) hzz.out ?_)
            intro v3 w3 s3 g3 d3
            replace s3 := Lib.hid (ownP_push (p := (at', at2 - 1, c1)) hm.out s3)
            have hb3 := Lib.hid (bgrowO hb.out g3 hlt2.out hzz.out)
            clear g3 d3 hsm hrec z0 z1 z2 hzz hlt2 hb hbw
            go_wp2_with fail
            go_roundw
            case rel => exact ⟨k + 1, c1, [] ++ [(at', at2 - 1, c1)], by omega, by go_num, rfl, hcn, len_push (by rw [hm.out]; omega) _, s3, hpush, PB.push hpb.out hpbn.out, hb3⟩
            case measure => simp [intOf]; omega
          · obtain ⟨j, hj⟩ : ∃ j, ini.length = j := ⟨_, rfl⟩
            obtain rfl : m = j + 1 := by rw [List.length_append, hj] at hm; simpa using hm.symm
            obtain ⟨q1, q2⟩ := hqb.out ini q rfl
            have hjo' := hjoin.out ini q rfl hq
            obtain ⟨g5, c5, e5, g5B, g5l, -, -, hc5⟩ := own_form hsm.out (by omega)
            injection e5 with e5 _ e5'
            subst e5 e5'
            have hcs := pcV_get (ini ++ [q]) j q (by rw [← hj]; simp)
            have d1 : W3.cell? ⟨g5, j * 3 + 1, none⟩ = some (.int .i64 q.2.1) := hc5 _ _ hcs.2.1
            have d2 : W3.cell? ⟨g5, j * 3 + 2, none⟩ = some (.int .i64 q.2.2) := hc5 _ _ hcs.2.2
            have f0 := hsm.out.frozenAt (j * 3 + 1)
            have hpj : Hid (PB (ini ++ [(q.1, at2 - 1, q.2.2)])) := PB.join hpb.out (by omega)
            obtain ⟨qa, qb, qc⟩ := q
            dsimp only at q1 q2 hjo' d1 d2 hpj
            replace hjo' := Lib.hid hjo'
            have e1 : IntKind.i64.wrap (((j + 1 : Nat) : Int) - 1) = (j : Int) := by rw [IntKind.wrap_i64]; omega
            have e2 : IntKind.i64.wrap (qb + 1) = qb + 1 := by rw [IntKind.wrap_i64]; omega
            have i2 : (0 : Int) ≤ (j : Int) := by omega
            have i3 : (j : Int) < ((j + 1 : Nat) : Int) := by omega
            have i4 : (0 : Int) < ((j + 1 : Nat) : Int) := by omega
            replace hm := Lib.hid hm
            replace hj := Lib.hid hj
            clear hjoin hqb hc5 hcs
            by_cases hq1 : qc = c1
            · have i5 : (qc == c1) = true := by simpa using hq1
              replace hq1 := Lib.hid hq1
              by_cases hq2 : qb + 1 = at'
              · have i6 : (qb + 1 == at') = true := by simpa using hq2
                replace hq2 := Lib.hid hq2
                go_quiet (fail)
                clear i5 i6
                have hdr := below_drewN (Below.refl W3.heap.size W3) nq
                replace hsm := Lib.hid (own_below hsm.out hdr)
                replace x8 := x8.below hdr
                replace hb := Lib.hid (bgo hb.out hdr)
                replace hbw := Lib.hid (bgo hbw.out hdr)
                clear hdr y0 z0 z1 z2
                generalize W3.drewN nq = W4 at *
                have z0 : W4.cell? ⟨g8, 0, none⟩ = some (.int .i64 at') := x8.cell 0
                have z1 : W4.cell? ⟨g8, 1, none⟩ = some (.int .i64 (at2 - 1)) := x8.cell 1
                have z2 : W4.cell? ⟨g8, 2, none⟩ = some (.int .i64 c1) := x8.cell 2
                have hset := ownP_set hj.out hsm.out (at2 - 1)
                have f0 := hsm.out.frozenAt (j * 3 + 1)
                have d0 : W4.cell? ⟨g5, j * 3 + 1, none⟩ = some (.int .i64 qb) := by rw [hsm.out.cellAt _ (by omega)]; exact (pcV_get _ j (qa, qb, qc) (by rw [← hj.out]; simp)).2.1
                have s3 := Lib.hid hset.1
                have hb3 := Lib.hid (bgrow hb.out hset.2 g5B hb.out.size)
                clear hset hsm hb hbw d1 d2
                go_wp2_with fail
                go_roundw
                case rel => exact ⟨k + 1, c1, ini ++ [(qa, at2 - 1, qc)], by omega, by go_num, rfl, hcn, by rw [List.length_append, hj.out]; simp; omega, s3, hjo'.out hq2.out hq1.out, hpj, hb3⟩
                case measure => simp [intOf]; omega
              · have i6 : (qb + 1 == at') = false := by simpa using hq2
                go_quiet (fail)
                clear d1 d2 f0 i5 i6
                have hdr := below_drewN (Below.refl W3.heap.size W3) nq
                replace hsm := Lib.hid (own_below hsm.out hdr)
                replace x8 := x8.below hdr
                replace hb := Lib.hid (bgo hb.out hdr)
                replace hbw := Lib.hid (bgo hbw.out hdr)
                clear hdr y0 z0 z1 z2
                generalize W3.drewN nq = W4 at *
                have z0 : W4.cell? ⟨g8, 0, none⟩ = some (.int .i64 at') := x8.cell 0
                have z1 : W4.cell? ⟨g8, 1, none⟩ = some (.int .i64 (at2 - 1)) := x8.cell 1
                have z2 : W4.cell? ⟨g8, 2, none⟩ = some (.int .i64 c1) := x8.cell 2
                have hrec : Hid (Sees (W4.alloc (.cells #[.int .i64 at', .int .i64 (at2 - 1), .int .i64 c1] 89)) (W4.heap.size + 1) (.slice (some ⟨W4.heap.size, 0, none⟩) 1 1) 3 1 [.int .i64 at', .int .i64 (at2 - 1), .int .i64 c1]) := rec_lit W4 89 [.int .i64 at', .int .i64 (at2 - 1), .int .i64 c1]
                have hal := balloc W4 (.cells #[.int .i64 at', .int .i64 (at2 - 1), .int .i64 c1] 89)
                replace hsm := Lib.hid (own_below hsm.out hal)
                replace hb := Lib.hid (bgo hb.out hal)
                replace hbw := Lib.hid (bgo hbw.out hal)
                have hzz : Hid (W0.heap.size ≤ (W4.alloc (.cells #[.int .i64 at', .int .i64 (at2 - 1), .int .i64 c1] 89)).heap.size) := hb.out.size
                have hlt2 : Hid (∀ j, (Value.slice (some ⟨g5, 0, none⟩) (j + 1) cs).ownBlock = some j → W0.heap.size ≤ j) := fun j hj => (hsm.out.lt j hj).1
                clear hal x8
                go_wp2_with (at_builtin; refine wpList_append_sees (by rfl) _ _ 69 rfl W0.heap.size 89 ti _ 3 24 Try.underlying69 hti.out htz.out hts.out htb.out rfl (by omega) _ (j + 1) _ rfl hsm.out _ _ 1 _ rfl hrec.out (by simp [Value.oneCell']) (by unfold maxLen; omega) (by omega) hzz.out ?_)
                intro v3 w3 s3 g3 d3
                replace s3 := Lib.hid (ownP_push (p := (at', at2 - 1, c1)) hm.out s3)
                have hb3 := Lib.hid (bgrowO hb.out g3 hlt2.out hzz.out)
                clear g3 d3 hsm hrec z0 z1 z2 hzz hlt2 hb hbw
                go_wp2_with fail
                go_roundw
                case rel => exact ⟨k + 1, c1, (ini ++ [(qa, qb, qc)]) ++ [(at', at2 - 1, c1)], by omega, by go_num, rfl, hcn, len_push (by rw [hm.out]; omega) _, s3, hpush, PB.push hpb.out hpbn.out, hb3⟩
                case measure => simp [intOf]; omega
            · have i5 : (qc == c1) = false := by simpa using hq1
              go_quiet (fail)
              clear d1 d2 f0 i5
              have hdr := below_drewN (Below.refl W3.heap.size W3) nq
              replace hsm := Lib.hid (own_below hsm.out hdr)
              replace x8 := x8.below hdr
              replace hb := Lib.hid (bgo hb.out hdr)
              replace hbw := Lib.hid (bgo hbw.out hdr)
              clear hdr y0 z0 z1 z2
              generalize W3.drewN nq = W4 at *
              have z0 : W4.cell? ⟨g8, 0, none⟩ = some (.int .i64 at') := x8.cell 0
              have z1 : W4.cell? ⟨g8, 1, none⟩ = some (.int .i64 (at2 - 1)) := x8.cell 1
              have z2 : W4.cell? ⟨g8, 2, none⟩ = some (.int .i64 c1) := x8.cell 2
              have hrec : Hid (Sees (W4.alloc (.cells #[.int .i64 at', .int .i64 (at2 - 1), .int .i64 c1] 89)) (W4.heap.size + 1) (.slice (some ⟨W4.heap.size, 0, none⟩) 1 1) 3 1 [.int .i64 at', .int .i64 (at2 - 1), .int .i64 c1]) := rec_lit W4 89 [.int .i64 at', .int .i64 (at2 - 1), .int .i64 c1]
              have hal := balloc W4 (.cells #[.int .i64 at', .int .i64 (at2 - 1), .int .i64 c1] 89)
              replace hsm := Lib.hid (own_below hsm.out hal)
              replace hb := Lib.hid (bgo hb.out hal)
              replace hbw := Lib.hid (bgo hbw.out hal)
              have hzz : Hid (W0.heap.size ≤ (W4.alloc (.cells #[.int .i64 at', .int .i64 (at2 - 1), .int .i64 c1] 89)).heap.size) := hb.out.size
              have hlt2 : Hid (∀ j, (Value.slice (some ⟨g5, 0, none⟩) (j + 1) cs).ownBlock = some j → W0.heap.size ≤ j) := fun j hj => (hsm.out.lt j hj).1
              clear hal x8
              go_wp2_with (at_builtin; refine wpList_append_sees (by rfl) _ _ 69 rfl W0.heap.size 89 ti _ 3 24 Try.underlying69 hti.out htz.out hts.out htb.out rfl (by omega) _ (j + 1) _ rfl hsm.out _ _ 1 _ rfl hrec.out (by simp [Value.oneCell']) (by unfold maxLen; omega) (by omega) hzz.out ?_)
              intro v3 w3 s3 g3 d3
              replace s3 := Lib.hid (ownP_push (p := (at', at2 - 1, c1)) hm.out s3)
              have hb3 := Lib.hid (bgrowO hb.out g3 hlt2.out hzz.out)
              clear g3 d3 hsm hrec z0 z1 z2 hzz hlt2 hb hbw
              go_wp2_with fail
              go_roundw
              case rel => exact ⟨k + 1, c1, (ini ++ [(qa, qb, qc)]) ++ [(at', at2 - 1, c1)], by omega, by go_num, rfl, hcn, len_push (by rw [hm.out]; omega) _, s3, hpush, PB.push hpb.out hpbn.out, hb3⟩
              case measure => simp [intOf]; omega
    · obtain rfl : k = d.length := by omega
      have i0 : ¬ (d.length : Int) < (d.length : Int) := by omega
      go_wp2_with fail
      go_returns
      exact pieces_done hi.out hol hdl hpb.out hs.out hz0.out hbw.out
end Go.Proofs.Ytiiaghmdajdbbaa

/- Contract of sweep.events, the walk. Conditions: the spans are seen, valid, at least one, at most 64. -/
import Derived.Test.YtiiaghmdajdbbaaQE
namespace Go.Proofs.Ytiiaghmdajdbbaa
open Go.RowKit Go.Sort
set_option linter.unusedVariables false
set_option linter.unusedSimpArgs false
attribute [local go_sem ↓] Go.wp_at_zero Go.wp_at_succ
theorem lit_n (W : World) (T : TypeId) (xs : List Value) (size n : Nat) (h : xs.length = n * size) (hn : n ≤ 64) : Sees (W.alloc (.cells xs.toArray T)) (W.heap.size + 1) (.slice (some ⟨W.heap.size, 0, none⟩) n n) size n xs :=
  ⟨h, _, n, rfl, Nat.le_refl _, by unfold maxLen; omega, fun _ => ⟨W.heap.size, 0, rfl, by omega, fun j u hj => by have := (Box.new W T xs).cell j; rw [Nat.zero_add, this, hj]⟩⟩
theorem sort_ev (g cap N : Nat) (l : List Sp) (base : Nat) (w : World) (hN : (evs l).length = N) (h : w.ownsRow base 102 2 (.slice (some ⟨g, 0, none⟩) N cap) N (spV (evs l))) (hl : N ≤ 128) :
    Calls Try.prog 77 #[.slice (some ⟨g, 0, none⟩) N cap, .func (.func 78) #[] #[]] w fun e w' => e = .returned (.tuple #[]) ∧ ∃ d, Evs l d ∧ d.length = N ∧ w'.ownsRow base 102 2 (.slice (some ⟨g, 0, none⟩) N cap) N (spV d) ∧ w.grownBy w' (some g) := by
  subst hN
  have eg : ∀ args w, (callFunc 78 args).run Try.prog w = .ok (.enter 78 args) w := enters_of Try.func78 (by kernel_rfl) rfl
  have hlt : g < w.heap.size := (h.lt g rfl).2
  have hcon := AnyQ.slices_SortFunc Try.sortEv 2 Try.isAgg102 Try.sizeOf102 encE (fun _ => rfl) (fun x v hv => by simp [encE] at hv; rcases hv with rfl | rfl <;> rfl) (fun x y => Lib.compareInt x.1 y.1) swoE 78 #[] g 0 cap (evs l).toArray w eg (evLays g 0 (evs l).toArray.size w) (holds_own h) hlt (by simp; omega)
  have e0 : (evs l).toArray.size = (evs l).length := by simp
  rw [e0] at hcon
  refine Calls.mono hcon ?_
  rintro e w' ⟨he, d', n, os, h1, h2, rfl⟩
  have hev := evs_of (l := l) (d' := d') (by rw [e0]; exact h1) (by rw [e0]; exact h2)
  have hsz : d'.size = (evs l).length := by rw [← e0]; exact h1.1
  obtain ⟨k1, k2⟩ := sorted_own h d' hsz n os
  exact ⟨he, d'.toList, hev, by rw [Array.length_toList, hsz], k1, k2⟩
theorem ev_done {l : List Sp} {w w' : World} {v : Value} {d : List (Int × Int)} {N : Nat} (h : Evs l d) (hd : d.length = N) (ho : w'.ownsRow w.heap.size 102 2 v N (spV d)) (hb : Below w.heap.size w w') : EvP l w (.returned v) w' := by
  subst hd; exact ⟨v, d, rfl, ho, h, hb⟩
set_option maxRecDepth 100000 in
set_option maxHeartbeats 4000000 in
theorem events_any (B : Nat) (u : Value) (l : List Sp) (w : World) (hu : SeesS w B u l) (hB : B ≤ w.heap.size) (hn : l.length ≤ 64) (h0 : 0 < l.length) (hok : okV l = true) :
    Calls Try.prog 74 #[u] w (EvP l w) := by
  obtain ⟨A, c, rfl, -, -⟩ := hu.mk_
  obtain ⟨ti, hti, htz, hts, htb⟩ := info_parts event_info
  replace hti := Lib.hid hti
  replace htz := Lib.hid htz
  replace hts := Lib.hid hts
  replace htb := Lib.hid htb
  replace hok := Lib.hid hok
  replace hu := Lib.hid hu
  have hz : Hid (w.heap.size ≤ w.heap.size) := Nat.le_refl _
  go_enter Try.func74, Try.ntmps74
  go_wp2_with fail
  go_loopw [3, 5, 8] (fun s _ i wr => ∃ k : Nat, k ≤ l.length ∧ i = .int .i64 k ∧ Hid (wr.ownsRow w.heap.size 102 2 s (2 * k) (spV (evs (l.take k)))) ∧ Hid (Below w.heap.size w wr)) (fun _ _ i _ => l.length - (intOf i).toNat)
  case atStart => exact ⟨0, by omega, rfl, World.ownsRow_nil _ _ _ _, Below.refl _ _⟩
  case round =>
    obtain ⟨k, hk, rfl, hs, hb⟩ := hrel
    obtain ⟨As, cs, rfl, -, -⟩ := (Sees.of_own hs.out).mk_
    by_cases hlt : k < l.length
    · obtain ⟨b, o, rfl, hbB, hds⟩ := SeesS.at_ (Sees.below hu.out (hb.out.mono hB)) (by omega)
      obtain ⟨s, hsk⟩ : ∃ s, l[k]? = some s := ⟨_, List.getElem?_eq_getElem hlt⟩
      obtain ⟨c0, c1⟩ := hds k s hsk
      have hv := okV_each hok.out s (List.mem_of_getElem? hsk)
      have hst := Lib.hid (evs_take hsk)
      obtain ⟨lo, hi⟩ := s
      unfold vS at hv
      rw [decide_eq_true_iff] at hv
      dsimp only at c0 c1 hst hv
      obtain ⟨v1, v2, v3⟩ := hv
      have i0 : (k : Int) < (l.length : Int) := by omega
      have i1 : (0 : Int) ≤ (k : Int) := by omega
      have x5 := Box.new wr 28 [.int .i64 lo, .int .i64 hi]
      change Box (wr.alloc (.cells #[.int .i64 lo, .int .i64 hi] 28)) _ _ _ at x5
      have hal := balloc wr (.cells #[.int .i64 lo, .int .i64 hi] 28)
      replace hs := Lib.hid (own_below hs.out hal)
      replace hb := Lib.hid (bgo hb.out hal)
      replace hsk := Lib.hid hsk
      clear hal hds
      go_upto_region 5 with (fail)
      generalize wr.alloc (.cells #[.int .i64 lo, .int .i64 hi] 28) = W1 at *
      generalize wr.heap.size = g5 at *
      clear c0 c1
      obtain ⟨y0, y1⟩ := boxT2 x5
      have hrec : Hid (Sees (W1.alloc (.cells #[.int .i64 lo, .int .i64 1, .int .i64 (hi + 1), .int .i64 (-1)] 102)) (W1.heap.size + 1) (.slice (some ⟨W1.heap.size, 0, none⟩) 2 2) 2 2 [.int .i64 lo, .int .i64 1, .int .i64 (hi + 1), .int .i64 (-1)]) := lit_n W1 102 [.int .i64 lo, .int .i64 1, .int .i64 (hi + 1), .int .i64 (-1)] 2 2 rfl (by omega)
      have hal := balloc W1 (.cells #[.int .i64 lo, .int .i64 1, .int .i64 (hi + 1), .int .i64 (-1)] 102)
      replace hs := Lib.hid (own_below hs.out hal)
      replace hb := Lib.hid (bgo hb.out hal)
      have hzz : Hid (w.heap.size ≤ (W1.alloc (.cells #[.int .i64 lo, .int .i64 1, .int .i64 (hi + 1), .int .i64 (-1)] 102)).heap.size) := hb.out.size
      have hlt2 : Hid (∀ j, (Value.slice As (2 * k) cs).ownBlock = some j → w.heap.size ≤ j) := fun j hj => (hs.out.lt j hj).1
      clear hal x5
      go_wp2_with (at_builtin; refine wpList_append_sees (by rfl) _ _ 99 rfl w.heap.size 102 ti _ 2 16 Try.underlying99 hti.out htz.out hts.out htb.out rfl (by omega) _ (2 * k) _ rfl hs.out _ _ 2 _ rfl hrec.out (by simp [Value.oneCell']) (by unfold maxLen; omega) (by omega) hzz.out ?_)
      intro v3 w3 s3 g3 d3
      replace s3 : Hid (w3.ownsRow w.heap.size 102 2 v3 (2 * (k + 1)) (spV (evs (l.take (k + 1))))) := by
        show World.ownsRow _ _ _ _ _ _ _
        rw [hst.out, spV_append]; exact s3
      have hb3 := Lib.hid (bgrowO hb.out g3 hlt2.out hzz.out)
      clear g3 d3 hs hrec y0 y1 hzz hlt2 hb
      go_wp2_with fail
      go_roundw
      case rel => exact ⟨k + 1, by omega, by go_num, s3, hb3⟩
      case measure => simp [intOf]; omega
    · obtain rfl : k = l.length := by omega
      have i0 : ¬ (l.length : Int) < (l.length : Int) := by omega
      rw [List.take_of_length_le (by omega)] at hs
      obtain ⟨g, cap, e5, gB, -, -, -, -⟩ := own_form hs.out (by omega)
      injection e5 with e5 _ e5'
      subst e5 e5'
      have hsort := Lib.hid (sort_ev g cs (2 * l.length) l w.heap.size wr (evs_len l) hs.out (by omega))
      clear hs
      go_wp2_with fail
      refine hsort.out.mono ?_
      rintro e w2 ⟨rfl, d, hE, hd, ho, hg⟩
      replace hd := Lib.hid hd
      have hb2 := Lib.hid (bgrow hb.out hg gB hb.out.size)
      replace ho := Lib.hid ho
      dsimp only
      go_wp2_with fail
      go_returns
      exact ev_done hE hd.out ho.out hb2.out
end Go.Proofs.Ytiiaghmdajdbbaa

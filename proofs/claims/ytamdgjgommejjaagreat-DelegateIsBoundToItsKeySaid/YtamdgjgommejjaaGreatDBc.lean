/- A piece of my texts, cut out by slice.py: what a claim leans on. -/
import Derived.Test.YtamdgjgommejjaaGreatDBb
import Derived.Test.YtamdgjgommejjaaGreatShelf
namespace Go.Proofs.YtamdgjgommejjaaGreat
section
open Go.RowKit
set_option linter.unusedVariables false
attribute [local go_sem ↓] Go.wp_at_zero Go.wp_at_succ
theorem own_cons {w w' : World} {base g n c : Nat} {y : Value} {x : Bs} {ls : List Bs} {vs rest : List Value} (hg : w.grownBy w' (some g)) (hh : w'.heap[g]? = some (.cells (y :: vs ++ rest).toArray 23 (0, 0)))
    (hn : n = ls.length + 1) (hc : (y :: vs ++ rest).length = c) (hcm : c ≤ maxLen) (hv : vs.length = ls.length) (hb : base ≤ g) (A : Value) (hA : A.ownBlock = some g)
    (hx : Elt w A y x) (hel : ∀ k, k < ls.length → ∃ u, vs[k]? = some u ∧ Elt w A u (ls.getD k [])) :
    OwnL w' base (.slice (some ⟨g, 0, none⟩) n c) (x :: ls) := by
  subst hn
  have hst : ∀ {u : Value} {m : Bs}, Elt w A u m → Elt w' (.slice (some ⟨g, 0, none⟩) (ls.length + 1) c) u m := fun {u m} hu => ⟨hu.grown (by rw [hA]; exact hg), fun hm k hk => by
    have := hu.2 hm k hk
    rw [hA] at this
    exact this⟩
  refine ⟨y :: vs, ⟨by simp [hv], .inr ⟨g, c, (y :: vs ++ rest).toArray, rfl, hb, hh, ?_, hcm, by rw [List.size_toArray, hc, Nat.mul_one], ?_⟩⟩, fun k hk => ?_⟩
  · rw [← hc]; simp only [List.cons_append, List.length_cons, List.length_append]; omega
  · rw [Nat.mul_one, List.take_append_of_le_length (by simp [hv]), List.take_of_length_le (by simp [hv])]
  · cases k with
    | zero => exact ⟨y, rfl, hst hx⟩
    | succ k =>
      obtain ⟨u, e1, e2⟩ := hel k (by simpa using hk)
      exact ⟨u, by simpa using e1, by simpa using hst e2⟩
theorem run_append_cut_zeros {P : Program} (w : World) (t tn ty e : TypeId) (i : TypeInfo) (z : Value) (k kn : IntKind) (ht : P.underlying t = some (.slice e)) (htn : P.underlying tn = some (.int kn)) (hi : P.info? e = some i) (hz : i.zero = some z)
    (a : Addr) (c n : Nat) (h0 : c < n) (hs : i.size = 1) (hn : n ≤ 1000) (hb : i.bytes ≤ 1000) (hc : n ≤ 2 * c) (hc2 : c < 256) :
    (Builtin.append_ #[t, tn] ty #[.slice (some a) 0 c, .int k n]).run P w =
      .ok (.slice (some ⟨w.heap.size, 0, none⟩) n (grownCap w n c e)) (w.drew.alloc (.cells (Builtin.zeroCells z.cells n ++ Builtin.zeroCells z.cells (grownCap w n c e - n)) e)) := by
  have hn0 : n ≠ 0 := by omega
  have hw : IntKind.i64.wrap (n : Int) = n := by rw [IntKind.wrap_i64]; omega
  have h63' : ¬ (9223372036854775807 < (n : Int)) := by omega
  have hcap : Builtin.nextslicecap n c = 2 * c := by unfold Builtin.nextslicecap; rw [if_neg (by omega), if_pos hc2]
  have h48' : ¬ (281474976710656 < 2 * c * i.bytes) := by
    have : 2 * c * i.bytes ≤ 512 * 1000 := Nat.mul_le_mul (by omega) hb
    omega
  have h48i : ¬ (281474976710656 < (n : Int) * (i.bytes : Int)) := by
    have : n * i.bytes ≤ 1000 * 1000 := Nat.mul_le_mul hn hb
    have : ((n * i.bytes : Nat) : Int) ≤ 1000000 := by omega
    rw [Int.natCast_mul] at this
    omega
  have hneg : ¬ ((n : Int) < 0) := by omega
  have hnc : ¬ (n ≤ c) := by omega
  have hf := run_firstCells_some (P := P) w.drew 1 0 a 0 c [] rfl (by simp)
  simp [Builtin.append_, run_underlying ht, run_underlying htn, sizeOf, typeInfo, zeroValue, hi, hz, hs, asInt, asIntOf, hw, hn0, hneg, h63', hcap, h48', h48i, hnc, Question.forced, hf, newRow, grownCap]
theorem call_overlaps (args : Array Value) (w : World) : (callFunc 127 args).run Tryz.prog w = ((Extern.SlicesOverlaps.overlaps #[35, 35] #[4] args).run Tryz.prog w).andThen fun v w' => .ok (.value v) w' :=
  run_callFunc_extern Tryz.func127 (by kernel_rfl) (by kernel_rfl) (by kernel_rfl) (by kernel_rfl) args w
def InsPost (base : Nat) (ls : List Bs) (w : World) (e : Ending) (w' : World) : Prop := ∃ v, e = .returned v ∧ OwnL w' base v ls ∧ Below base w w'
theorem splice_head (cur vs : List Value) (y : Value) (n : Nat) (h : cur.take n = vs) (hn : n + 1 ≤ cur.length) : splice (splice cur 1 vs) 0 [y] = y :: vs ++ cur.drop (n + 1) := by
  subst h
  have hl : (cur.take n).length = n := by rw [List.length_take]; omega
  match cur, hn with
  | a :: cur, hn =>
    simp [splice, hl, Nat.add_comm]
theorem splice_head2 (Z vs : List Value) (y : Value) (n : Nat) (h : vs.length = n) (hn : n + 1 ≤ Z.length) : splice (splice Z 0 [y]) 1 vs = y :: vs ++ Z.drop (n + 1) := by
  subst h
  match Z, hn with
  | a :: Z, hn => simp [splice, Nat.add_comm]
set_option maxRecDepth 100000 in
theorem insert_any (base g gb n c : Nat) (y : Value) (x : Bs) (ls : List Bs) (w : World) (hown : OwnL w base (.slice (some ⟨g, 0, none⟩) n c) ls) (hn1 : 1 ≤ ls.length) (hn2 : ls.length ≤ 200) (hbx : Box w gb 23 [y]) (hne : gb ≠ g) (hx : Elt w (.slice (some ⟨g, 0, none⟩) n c) y x) (hbase : base ≤ w.heap.size) :
    Calls Tryz.prog 112 #[.slice (some ⟨g, 0, none⟩) n c, .int .i64 0, .slice (some ⟨gb, 0, none⟩) 1 1] w (InsPost base (x :: ls) w) := by
  have hlt := hown.lt g rfl
  obtain ⟨vs, hrow, hel⟩ := hown
  have hvl : vs.length = ls.length := by rw [hrow.1, Nat.mul_one]
  have hroom : ∃ cur : List Value, w.heap[g]? = some (.cells cur.toArray 23 (0, 0)) ∧ n = ls.length ∧ n ≤ c ∧ c ≤ maxLen ∧ cur.length = c ∧ cur.take n = vs := by
    rcases hrow.2 with ⟨e, _⟩ | ⟨g', c', cur, e, _, h1, h2, h3, h4, h5⟩
    · cases e
    · injection e with e1 e2 e3
      injection e1 with e1
      injection e1 with e1
      subst e1 e3 e2
      exact ⟨cur.toList, by simpa using h1, rfl, h2, h3, by simpa using h4, by simpa using h5⟩
  obtain ⟨cur, hg, rfl, hnc, hcm, hcl, htk⟩ := hroom
  have hvs1 : ∀ v ∈ vs, v.oneCell' = true := by
    intro v hv
    obtain ⟨k, hk⟩ := List.mem_iff_getElem?.1 hv
    obtain ⟨u, e1, e2⟩ := hel k (by have := (List.getElem?_eq_some_iff.1 hk).1; omega)
    rw [hk] at e1
    cases e1
    obtain ⟨A, c', rfl, -, -⟩ := e2.1.mk_
    rfl
  have hy1 : y.oneCell' = true := by
    obtain ⟨A, c', rfl, -, -⟩ := hx.1.mk_
    rfl
  have r0 : ∀ W, (Instr.slice 35 (.slice (some ⟨g, 0, none⟩) ls.length c) (some (.int .i64 0)) none none).run Tryz.prog W = .ok (.slice (some ⟨g, 0, none⟩) ls.length c) W := fun W => by
    have := run_cut_from (P := Tryz.prog) 35 Tryz.underlying35 1 slice_size (some ⟨g, 0, none⟩) ls.length c .i64 0 (by omega) (by omega) W
    rw [show (0 : Int).toNat = 0 from rfl, cutA_zero] at this
    exact this
  have j0 : ((0 : Int) == (ls.length : Int)) = false := by rw [beq_eq_false_iff_ne]; omega
  have hm : (ls.length : Int) ≤ 200 := by omega
  replace hrow := Lib.hid hrow
  replace hel := Lib.hid hel
  by_cases hfit : ls.length + 1 ≤ c
  · have j1 : ¬ ((c : Int) < (ls.length : Int) + 1) := by omega
    have r1 : ∀ W, (Instr.slice 35 (.slice (some ⟨g, 0, none⟩) ls.length c) none (some (.int .i64 ((ls.length : Int) + 1))) none).run Tryz.prog W = .ok (.slice (some ⟨g, 0, none⟩) (ls.length + 1) c) W := fun W => by
      have := run_cut_to (P := Tryz.prog) 35 Tryz.underlying35 1 slice_size (some ⟨g, 0, none⟩) ls.length c .i64 ((ls.length : Int) + 1) (by omega) (by omega) W
      rw [cutA_zero, show ((ls.length : Int) + 1).toNat = ls.length + 1 from by omega] at this
      exact this
    have r2 : ∀ W, (Instr.slice 35 (.slice (some ⟨g, 0, none⟩) (ls.length + 1) c) (some (.int .i64 1)) none none).run Tryz.prog W = .ok (.slice (some ⟨g, 1, none⟩) ls.length (c - 1)) W := fun W => by
      have := run_cut_from (P := Tryz.prog) 35 Tryz.underlying35 1 slice_size (some ⟨g, 0, none⟩) (ls.length + 1) c .i64 1 (by omega) (by omega) W
      rw [show (1 : Int).toNat = 1 from rfl, cutA, if_neg (by omega), Option.map_some, add_zero'] at this
      exact this
    have r3 : ∀ W, (Instr.slice 35 (.slice (some ⟨g, 0, none⟩) (ls.length + 1) c) (some (.int .i64 0)) none none).run Tryz.prog W = .ok (.slice (some ⟨g, 0, none⟩) (ls.length + 1) c) W := fun W => by
      have := run_cut_from (P := Tryz.prog) 35 Tryz.underlying35 1 slice_size (some ⟨g, 0, none⟩) (ls.length + 1) c .i64 0 (by omega) (by omega) W
      rw [show (0 : Int).toNat = 0 from rfl, cutA_zero] at this
      exact this
    have hov : (callFunc 127 #[.slice (some ⟨gb, 0, none⟩) 1 1, .slice (some ⟨g, 1, none⟩) ls.length (c - 1)]).run Tryz.prog w = .ok (.value (.bool false)) w := by
      rw [call_overlaps, Lib.run_overlaps_apart w 35 4 23 Tryz.underlying35 1 slice_size ⟨gb, 0, none⟩ ⟨g, 1, none⟩ 1 1 ls.length (c - 1) hne 23 23 1 c
        (by have : w.heap[gb]? = _ := hbx; simp [World.shape?, this]) (by simp [World.shape?, hg, hcl]) (by omega) (hbx.frozen 0) (hbx.frozen 1)]
      rfl
    replace hov := hov
    have hsz : (splice cur 1 vs).length = c := by rw [length_splice _ _ _ (by omega), hcl]
    have hspl := Lib.hid (splice_head cur vs y ls.length htk (by omega))
    have hy0 : w.cell? ⟨gb, 0, none⟩ = some y := hbx.cell 0
    have hvc : ∀ j v, vs[j]? = some v → w.cell? ((⟨g, 0, none⟩ : Addr).add j) = some v := fun j v hj => by
      rw [add_zero', Nat.zero_add, block_cell hg, ← hj, ← htk, List.getElem?_take, if_pos (by have := (List.getElem?_eq_some_iff.1 hj).1; omega)]
    replace hg := Lib.hid hg
    replace hvl := Lib.hid hvl
    replace hvc := Lib.hid hvc
    replace htk := Lib.hid htk
    replace hy0 := Lib.hid hy0
    replace hcl := Lib.hid hcl
    replace hsz := Lib.hid hsz
    clear hbx
    go_enter Tryz.func112, Tryz.ntmps112
    have m1 : IntKind.i64.wrap 1 = 1 := by decide +kernel
    have m2 : (1 : Int) ≤ (ls.length : Int) + 1 := by omega
    have hmin : Hid (vs.length = Nat.min (ls.length + 1) ls.length) := by show _ = _; rw [hvl.out]; exact (Nat.min_eq_right (by omega)).symm
    have hmin2 : Hid ([y].length = Nat.min 1 (ls.length + 1)) := by show _ = _; simp
    go_wp2_with fail
    go_region_held3 (fun W' : World => True) (trivial)
      ((refine step_copyG (by rfl) (.tmp 73) (.tmp 76) 35 (by rfl) 23 Tryz.underlying35 slice_sizeMap g 1 ls.length (c - 1) ⟨g, 0, none⟩ (ls.length + 1) c (by rfl) (by rfl) cur 23 hg.out vs hmin.out hvc.out (by rw [hvl.out, hcl.out]; omega) hvs1 ?_; intro w3 hg3 hb3))
    all_goals
      replace hb3 : Hid (w.grownBy w3 (some g)) := ⟨hb3.os, hb3.tape, hb3.output, hb3.size, hb3.block⟩
      have hy3 : Hid (∀ j v, [y][j]? = some v → w3.cell? ((⟨gb, 0, none⟩ : Addr).add j) = some v) := fun j v hj => by
        have hj0 : j = 0 := by
          have := (List.getElem?_eq_some_iff.1 hj).1
          simp at this; omega
        subst hj0
        cases hj
        rw [add_zero']
        exact hb3.out.cell hy0.out (by intro e; injection e with e; exact hne e)
      go_wp2_with (refine wpList_copyG rfl (.tmp 80) (.tmp 81) 35 rfl 23 Tryz.underlying35 slice_sizeMap g 0 (ls.length + 1) c ⟨gb, 0, none⟩ 1 1 rfl rfl (splice cur 1 vs) 23 hg3.out [y] hmin2.out hy3.out (by rw [hsz.out]; simp; omega) (by simpa using hy1) ?_; intro w4 hg4 hb4)
      rw [hspl.out] at hg4
      go_ret
      have hb34 : w.grownBy w4 (some g) := ggo hb3.out hb4
      refine ⟨_, rfl, own_cons hb34 hg4.out rfl (by rw [← hspl.out, length_splice _ _ _ (by rw [hsz.out]; simp; omega), hsz.out]) hcm hvl.out hlt.1 (.slice (some ⟨g, 0, none⟩) ls.length c) rfl hx hel.out, ?_⟩
      exact ⟨hb34.os, hb34.tape, hb34.output, hb34.size, fun k hk => hb34.block k (by omega) (by intro e; injection e with e; omega)⟩
  · obtain rfl : c = ls.length := by omega
    obtain ⟨i, hi, hz, hs, hby⟩ := info_parts slice_info
    have j1 : (ls.length : Int) < (ls.length : Int) + 1 := by omega
    have hr := run_append_cut_zeros (P := Tryz.prog) w 35 3 35 23 i (.slice none 0 0) .i64 .i64 Tryz.underlying35 Tryz.underlying3 hi hz ⟨g, 0, none⟩ ls.length (ls.length + 1) (by omega) hs (by omega) (by rw [hby]; omega) (by omega) (by omega)
    have hN := grownCap_ge w (ls.length + 1) ls.length 23
    have hNm := grownCap_le_maxLen w (ls.length + 1) ls.length 23 (by unfold maxLen; omega)
    have hZ : (Builtin.zeroCells (Value.slice none 0 0).cells (ls.length + 1) ++ Builtin.zeroCells (Value.slice none 0 0).cells (grownCap w (ls.length + 1) ls.length 23 - (ls.length + 1))).size = grownCap w (ls.length + 1) ls.length 23 := by
      rw [Array.size_append, zeroL_size, zeroL_size]; omega
    generalize grownCap w (ls.length + 1) ls.length 23 = N at *
    generalize Builtin.zeroCells (Value.slice none 0 0).cells (ls.length + 1) ++ Builtin.zeroCells (Value.slice none 0 0).cells (N - (ls.length + 1)) = Z at *
    have r1 : ∀ W, (Instr.slice 35 (.slice (some ⟨g, 0, none⟩) ls.length ls.length) none (some (.int .i64 0)) none).run Tryz.prog W = .ok (.slice (some ⟨g, 0, none⟩) 0 ls.length) W := fun W => by
      have := run_cut_to (P := Tryz.prog) 35 Tryz.underlying35 1 slice_size (some ⟨g, 0, none⟩) ls.length ls.length .i64 0 (by omega) (by omega) W
      rw [cutA_zero, show (0 : Int).toNat = 0 from rfl] at this
      exact this
    have r2 : ∀ W, (Instr.slice 35 (.slice (some ⟨w.heap.size, 0, none⟩) (ls.length + 1) N) (some (.int .i64 1)) none none).run Tryz.prog W = .ok (.slice (some ⟨w.heap.size, 1, none⟩) ls.length (N - 1)) W := fun W => by
      have := run_cut_from (P := Tryz.prog) 35 Tryz.underlying35 1 slice_size (some ⟨w.heap.size, 0, none⟩) (ls.length + 1) N .i64 1 (by omega) (by omega) W
      rw [show (1 : Int).toNat = 1 from rfl, cutA, if_neg (by omega), Option.map_some, add_zero'] at this
      exact this
    have r3 : ∀ W, (Instr.slice 35 (.slice (some ⟨w.heap.size, 0, none⟩) (ls.length + 1) N) (some (.int .i64 0)) none none).run Tryz.prog W = .ok (.slice (some ⟨w.heap.size, 0, none⟩) (ls.length + 1) N) W := fun W => by
      have := run_cut_from (P := Tryz.prog) 35 Tryz.underlying35 1 slice_size (some ⟨w.heap.size, 0, none⟩) (ls.length + 1) N .i64 0 (by omega) (by omega) W
      rw [show (0 : Int).toNat = 0 from rfl, cutA_zero] at this
      exact this
    have hg1 : (w.drew.alloc (.cells Z 23)).heap[w.heap.size]? = some (.cells Z.toList.toArray 23 (0, 0)) := by
      rw [Array.toArray_toList]; exact heap_alloc_new w.drew _
    have hb1 : Below w.heap.size w (w.drew.alloc (.cells Z 23)) := (bdrew w).trans (balloc w.drew _)
    have hgb := hbx.lt
    have hy0 : ∀ j v, [y][j]? = some v → (w.drew.alloc (.cells Z 23)).cell? ((⟨gb, 0, none⟩ : Addr).add j) = some v := fun j v hj => by
      have hj0 : j = 0 := by
        have := (List.getElem?_eq_some_iff.1 hj).1
        simp at this; omega
      subst hj0
      cases hj
      rw [add_zero']
      exact (hb1.cell (p := ⟨gb, 0, none⟩) hgb).trans (hbx.cell 0)
    have hvc : ∀ j v, vs[j]? = some v → (w.drew.alloc (.cells Z 23)).cell? ((⟨g, 0, none⟩ : Addr).add j) = some v := fun j v hj => by
      rw [add_zero', Nat.zero_add]
      refine (hb1.cell (p := ⟨g, j, none⟩) hlt.2).trans ?_
      rw [block_cell hg, ← hj, ← htk, List.getElem?_take, if_pos (by have := (List.getElem?_eq_some_iff.1 hj).1; omega)]
    have hsz : (splice Z.toList 0 [y]).length = N := by rw [length_splice _ _ _ (by simp; omega)]; simpa using hZ
    have hspl := Lib.hid (splice_head2 Z.toList vs y ls.length hvl (by simp; omega))
    have hmin : Hid (vs.length = Nat.min ls.length ls.length) := by show _ = _; rw [hvl]; exact (Nat.min_self _).symm
    have hmin2 : Hid ([y].length = Nat.min 1 (ls.length + 1)) := by show _ = _; simp
    have hxA : Elt w (.slice (some ⟨w.heap.size, 0, none⟩) 0 0) y x := ⟨hx.1, fun hl k hk e => by cases e; exact absurd (hx.1.blk hl _ hk) (by dsimp only; omega)⟩
    have helA : ∀ k, k < ls.length → ∃ u, vs[k]? = some u ∧ Elt w (.slice (some ⟨w.heap.size, 0, none⟩) 0 0) u (ls.getD k []) := fun k hk => by
      obtain ⟨u, e1, e2⟩ := hel.out k hk
      exact ⟨u, e1, e2.1, fun hl k hk e => by cases e; exact absurd (e2.1.blk hl _ hk) (by dsimp only; omega)⟩
    replace hg1 := Lib.hid hg1
    replace hb1 := Lib.hid hb1
    replace hvl := Lib.hid hvl
    replace hvc := Lib.hid hvc
    replace hy0 := Lib.hid hy0
    replace hsz := Lib.hid hsz
    replace hZ := Lib.hid hZ
    replace hxA := Lib.hid hxA
    replace helA := Lib.hid helA
    replace hr := Lib.hid hr
    have m1 : IntKind.i64.wrap 1 = 1 := by decide +kernel
    have m2 : (1 : Int) ≤ (ls.length : Int) + 1 := by omega
    clear hbx hg htk hcl hel hrow hx hi hz hs hby hfit hgb
    go_enter Tryz.func112, Tryz.ntmps112
    go_wp2_with (first
      | (at_builtin; refine Lib.wpList_append_run _ rfl _ _ _ _ rfl _ _ rfl rfl _ _ hr.out ?_)
      | (refine wpList_copyG rfl (.tmp 43) (.tmp 44) 35 rfl 23 Tryz.underlying35 slice_sizeMap w.heap.size 0 (ls.length + 1) N ⟨gb, 0, none⟩ 1 1 rfl rfl Z.toList 23 hg1.out [y] hmin2.out hy0.out (by have := hZ.out; simp; omega) (by simpa using hy1) ?_; intro w3 hg3 hb3))
    replace hb3 : Hid (w.grownBy w3 (some w.heap.size)) := ggo (gbelow hb1.out) ⟨hb3.os, hb3.tape, hb3.output, hb3.size, hb3.block⟩
    have hvc3 : Hid (∀ j v, vs[j]? = some v → w3.cell? ((⟨g, 0, none⟩ : Addr).add j) = some v) := fun j v hj => by
      have h1 := hvc.out j v hj
      rw [add_zero'] at h1 ⊢
      have h2 := hb1.out.cell (p := ⟨g, 0 + j, none⟩) hlt.2
      exact (World.cell?_of_block (hb3.out.block g hlt.2 (by intro e; injection e with e; omega))).trans (h2.symm.trans h1)
    go_region_held3 (fun W' : World => True) (trivial)
      ((refine step_copyG (by rfl) (.tmp 50) (.tmp 53) 35 (by rfl) 23 Tryz.underlying35 slice_sizeMap w.heap.size 1 ls.length (N - 1) ⟨g, 0, none⟩ ls.length ls.length (by rfl) (by rfl) (splice Z.toList 0 [y]) 23 hg3.out vs hmin.out hvc3.out (by rw [hvl.out, hsz.out]; omega) hvs1 ?_; intro w4 hg4 hb4))
    all_goals
      replace hb4 : Hid (w3.grownBy w4 (some w.heap.size)) := ⟨hb4.os, hb4.tape, hb4.output, hb4.size, hb4.block⟩
      go_wp2_with fail
      rw [hspl.out] at hg4
      go_ret
      have hb34 : w.grownBy w4 (some w.heap.size) := ggo hb3.out hb4.out
      refine ⟨_, rfl, own_cons hb34 hg4.out rfl (by rw [← hspl.out, length_splice _ _ _ (by rw [hsz.out, hvl.out]; omega), hsz.out]) hNm hvl.out hbase (.slice (some ⟨w.heap.size, 0, none⟩) 0 0) rfl hxA.out helA.out, ?_⟩
      exact ⟨hb34.os, hb34.tape, hb34.output, hb34.size, fun k hk => hb34.block k (by omega) (by intro e; injection e with e; omega)⟩
end
section
open Go.RowKit
set_option linter.unusedVariables false
attribute [local go_sem ↓] Go.wp_at_zero Go.wp_at_succ
theorem seesB_of {w W : World} {B : Nat} {v : Value} {l : Bs} (h : SeesB w B v l) (hB : B ≤ w.heap.size) (hb : Below w.heap.size w W) : SeesB W W.heap.size v l := (h.below (hb.mono hB)).more (Nat.le_trans hB hb.size)
/-- Join of a list that is written out. -/
theorem join_lit {vs : List Value} (ls : List Bs) (w0 W : World) (G : Nat) (hG : W.heap.size = G) (hw : Below w0.heap.size w0 W) (h : SeesAll W W.heap.size vs ls) (hm : vs.length ≤ 16) (hl : ls.flatten.length ≤ 1099511627776) :
    Calls Tryz.prog 45 #[.slice (some ⟨G, 0, none⟩) vs.length vs.length] (W.alloc (.cells vs.toArray 23)) fun e w' => ∃ v, e = .returned v ∧ OwnB w' w0.heap.size v ls.flatten ∧ Below w0.heap.size w0 w' := by
  subst hG
  exact (join_any _ _ ls _ (seesL_lit W 23 h (by unfold maxLen; omega)) (Nat.le_refl _) hl).mono fun _ _ ⟨v, h1, h2, h3⟩ => ⟨v, h1, h2.mono (Nat.le_trans hw.size (balloc W _).size), bgo hw (bgo (balloc W _) h3)⟩
theorem rjoin_lit {vs : List Value} (ls : List Bs) (w0 W : World) (G : Nat) (hG : W.heap.size = G) (hw : Below w0.heap.size w0 W) (h : SeesAll W W.heap.size vs ls) (hm : vs.length ≤ 16) (hl : ls.flatten.length ≤ 1099511627776) :
    Calls Tryz.prog 14 #[.slice (some ⟨G, 0, none⟩) vs.length vs.length] (W.alloc (.cells vs.toArray 23)) fun e w' => ∃ v, e = .returned v ∧ OwnB w' w0.heap.size v ls.flatten ∧ Below w0.heap.size w0 w' := by
  subst hG
  exact (rjoin_any _ _ ls _ (seesL_lit W 23 h (by unfold maxLen; omega)) (Nat.le_refl _) hl).mono fun _ _ ⟨v, h1, h2, h3⟩ => ⟨v, h1, h2.mono (Nat.le_trans hw.size (balloc W _).size), bgo hw (bgo (balloc W _) h3)⟩
set_option maxRecDepth 100000 in
theorem sbegin_any (h i : Nat) (w : World) (hh : h < 256) (hi : i < 4294967296) :
    Calls Tryz.prog 114 #[.agg #[.int .i64 (h : Int), .int .i64 (i : Int)]] w (Gives ([UInt8.ofNat h] ++ putB 4 i) w) := by
  have m0 : IntKind.u8.wrap (h : Int) = (h : Int) := by rw [IntKind.wrap_u8]; omega
  have m1 : IntKind.u64.wrap (i : Int) = (i : Int) := by rw [IntKind.wrap_u64]; omega
  have hx : ((UInt8.ofNat h).toNat : Int) = (h : Int) := by simp; omega
  have hp := Lib.hid (put4_any i (by omega))
  have hfl : Hid ([[UInt8.ofNat h], putB 4 i].flatten = [UInt8.ofNat h] ++ putB 4 i) := by show _ = _; simp
  have hl4 := Lib.hid (putB_len 4 i)
  replace hx := Lib.hid hx
  go_enter Tryz.func114, Tryz.ntmps114
  go_wp2_with fail
  have hb0 := balloc w (.cells #[.int .i64 (h : Int), .int .i64 (i : Int)] 121)
  have hbx := Box.new w 121 [.int .i64 (h : Int), .int .i64 (i : Int)]
  change Code.wp _ _ _ _ (w.alloc (.cells #[.int .i64 (h : Int), .int .i64 (i : Int)] 121))
  have hlt : w.heap.size < (w.alloc (.cells #[.int .i64 (h : Int), .int .i64 (i : Int)] 121)).heap.size := hbx.lt
  generalize w.alloc (.cells #[.int .i64 (h : Int), .int .i64 (i : Int)] 121) = w0 at *
  have c0 : w0.cell? ⟨w.heap.size, 0, none⟩ = some (.int .i64 (h : Int)) := hbx.cell 0
  have c1 : w0.cell? ⟨w.heap.size, 1, none⟩ = some (.int .i64 (i : Int)) := hbx.cell 1
  have hg0 := Lib.hid (Eq.refl w.heap.size)
  obtain ⟨g0, hg⟩ : ∃ g0, g0 = w.heap.size := ⟨_, rfl⟩
  rw [← hg] at c0 c1 hlt ⊢
  replace hg := Lib.hid hg
  replace hb0 := Lib.hid hb0
  clear hbx hg0
  have K : Hid (∀ W : World, Below w0.heap.size w0 W → W.cell? ⟨g0, 0, none⟩ = some (.int .i64 (h : Int)) ∧ W.cell? ⟨g0, 1, none⟩ = some (.int .i64 (i : Int))) :=
    fun W hW => ⟨(hW.cell (p := ⟨g0, 0, none⟩) hlt).trans c0, (hW.cell (p := ⟨g0, 1, none⟩) hlt).trans c1⟩
  go_region_held3 (fun W' : World => W'.cell? ⟨g0, 0, none⟩ = some (.int .i64 (h : Int)) ∧ W'.cell? ⟨g0, 1, none⟩ = some (.int .i64 (i : Int)))
    (first | exact K.out _ hb3 | (refine K.out _ ?_; (repeat (first | exact Below.refl _ _ | (refine bgo ?_ (balloc _ _)) | (refine bgo ?_ (bdrew _)) | (refine bgo ?_ (by assumption)))); done) | (go_keep; done))
    (first
      | (go_at_call 45; refine (join_lit (vs := [_, _]) [[UInt8.ofNat h], putB 4 i] w0 _ _ ?_ ?_ ⟨?_, ?_, trivial⟩ (by simp) (by rw [hfl.out]; simp [hl4.out])).mono ?_
         focus (first | rfl | (simp; done))
         focus ((repeat (first | exact Below.refl _ _ | (refine bgo ?_ (balloc _ _)) | (refine bgo ?_ (bdrew _)) | (refine bgo ?_ (by assumption)))); done)
         focus (first | (refine seesB_of (one_byte w0 _ _ hx.out).sees (Nat.le_refl _) ?_; (repeat (first | exact Below.refl _ _ | (refine bgo ?_ (balloc _ _)) | (refine bgo ?_ (bdrew _)) | (refine bgo ?_ (by assumption)))); done) | (refine seesB_of (one_byte w1 _ _ hx.out).sees (Nat.le_refl _) ?_; (repeat (first | exact Below.refl _ _ | (refine bgo ?_ (balloc _ _)) | (refine bgo ?_ (bdrew _)) | (refine bgo ?_ (by assumption)))); done))
         focus (refine seesB_of h1.sees (Nat.le_refl _) ?_; (repeat (first | exact Below.refl _ _ | (refine bgo ?_ (balloc _ _)) | (refine bgo ?_ (bdrew _)) | (refine bgo ?_ (by assumption)))); done)
         rintro e w3 ⟨v3, rfl, h3, hb3⟩)
      | (go_at_call 48; refine (hp.out _).mono ?_; rintro e w1 ⟨v1, rfl, h1, hb1⟩; obtain ⟨A1, c1', rfl, -, -⟩ := h1.sees.mk_))
  all_goals
    go_wp2_with fail
    go_ret
    rw [hfl.out] at h3
    exact ⟨v3, rfl, h3.mono hb0.out.size, bgo hb0.out hb3⟩
set_option maxRecDepth 100000 in
theorem digest_any (B : Nat) (u u2 : Value) (p m : Bs) (i : Nat) (w : World) (hu : SeesB w B u p) (hu2 : SeesB w B u2 m) (hB : B ≤ w.heap.size) (hp : p.length ≤ 1048576) (hm : m.length ≤ 1048576) (hi : i < 4294967296) :
    Calls Tryz.prog 79 #[u, .int .i64 (i : Int), u2] w (Shows (digG p i m) w) := by
  obtain ⟨A, c, rfl, -, -⟩ := hu.mk_
  obtain ⟨AA, cc, rfl, -, -⟩ := hu2.mk_
  have m1 : IntKind.u64.wrap (i : Int) = (i : Int) := by rw [IntKind.wrap_u64]; omega
  have hput := Lib.hid (put4_any i (by omega) w)
  have hl4 := putB_len 4 i
  have hdef : Hid (short (putB 4 i |> fun x => p ++ x ++ m) = digG p i m) := rfl
  replace hu := Lib.hid hu
  replace hu2 := Lib.hid hu2
  go_enter Tryz.func79, Tryz.ntmps79
  go_wp2_with fail
  refine hput.out.mono ?_
  rintro e w1 ⟨v1, rfl, h1, hb1⟩
  obtain ⟨A1, c1, rfl, -, -⟩ := h1.sees.mk_
  have hfl : [p, putB 4 i, m].flatten = p ++ putB 4 i ++ m := by simp
  have hj := Lib.hid (join_lit (vs := [.slice A p.length c, .slice A1 (putB 4 i).length c1, .slice AA m.length cc]) [p, putB 4 i, m] w1 w1 w1.heap.size rfl (Below.refl _ _) ⟨seesB_of (hu.out.more hB) (Nat.le_refl _) hb1, h1.sees, seesB_of (hu2.out.more hB) (Nat.le_refl _) hb1, trivial⟩ (by simp) (by rw [hfl]; simp [hl4]; omega))
  rw [hfl] at hj
  replace hfl := Lib.hid hfl
  replace hb1 := Lib.hid hb1
  have hln : (p ++ putB 4 i ++ m).length ≤ 1099511627776 := by simp [hl4]; omega
  clear h1 hl4
  dsimp only
  go_wp2_with fail
  refine hj.out.mono ?_
  rintro e w2 ⟨v2, rfl, h2, hb2⟩
  have hs := Lib.hid (short_any _ _ _ _ h2.sees (Nat.le_refl _) hln)
  clear hln hj
  dsimp only
  go_wp2_with fail
  refine hs.out.mono ?_
  rintro e w3 ⟨v3, rfl, h3, hb3, hf3⟩
  dsimp only
  go_wp2_with fail
  go_ret
  exact ⟨v3, rfl, h3, bgo (bgo hb1.out hb2) hb3, hf3.mono (bgo hb1.out hb2).size⟩
set_option maxRecDepth 100000 in
theorem rdigest_any (B : Nat) (u u2 : Value) (p m : Bs) (i : Nat) (w : World) (hu : SeesB w B u p) (hu2 : SeesB w B u2 m) (hB : B ≤ w.heap.size) (hp : p.length ≤ 1048576) (hm : m.length ≤ 1048576) (hi : i < 4294967296) :
    Calls Tryz.prog 65 #[u, .int .i64 (i : Int), u2] w (Shows (digG p i m) w) := by
  obtain ⟨A, c, rfl, -, -⟩ := hu.mk_
  obtain ⟨AA, cc, rfl, -, -⟩ := hu2.mk_
  have m1 : IntKind.u64.wrap (i : Int) = (i : Int) := by rw [IntKind.wrap_u64]; omega
  have hput := Lib.hid (rput4_any i (by omega) w)
  have hl4 := putB_len 4 i
  have hdef : Hid (short (putB 4 i |> fun x => p ++ x ++ m) = digG p i m) := rfl
  replace hu := Lib.hid hu
  replace hu2 := Lib.hid hu2
  go_enter Tryz.func65, Tryz.ntmps65
  go_wp2_with fail
  refine hput.out.mono ?_
  rintro e w1 ⟨v1, rfl, h1, hb1⟩
  obtain ⟨A1, c1, rfl, -, -⟩ := h1.sees.mk_
  have hfl : [p, putB 4 i, m].flatten = p ++ putB 4 i ++ m := by simp
  have hj := Lib.hid (rjoin_lit (vs := [.slice A p.length c, .slice A1 (putB 4 i).length c1, .slice AA m.length cc]) [p, putB 4 i, m] w1 w1 w1.heap.size rfl (Below.refl _ _) ⟨seesB_of (hu.out.more hB) (Nat.le_refl _) hb1, h1.sees, seesB_of (hu2.out.more hB) (Nat.le_refl _) hb1, trivial⟩ (by simp) (by rw [hfl]; simp [hl4]; omega))
  rw [hfl] at hj
  replace hfl := Lib.hid hfl
  replace hb1 := Lib.hid hb1
  have hln : (p ++ putB 4 i ++ m).length ≤ 1099511627776 := by simp [hl4]; omega
  clear h1 hl4
  dsimp only
  go_wp2_with fail
  refine hj.out.mono ?_
  rintro e w2 ⟨v2, rfl, h2, hb2⟩
  have hs := Lib.hid (rshort_any _ _ _ _ h2.sees (Nat.le_refl _) hln)
  clear hln hj
  dsimp only
  go_wp2_with fail
  refine hs.out.mono ?_
  rintro e w3 ⟨v3, rfl, h3, hb3, hf3⟩
  dsimp only
  go_wp2_with fail
  go_ret
  exact ⟨v3, rfl, h3, bgo (bgo hb1.out hb2) hb3, hf3.mono (bgo hb1.out hb2).size⟩
end
section
open Go.RowKit
set_option linter.unusedVariables false
attribute [local go_sem ↓] Go.wp_at_zero Go.wp_at_succ
theorem seesL_of {w W : World} {B : Nat} {v : Value} {l : List Bs} (h : SeesL w B v l) (hB : B ≤ w.heap.size) (hb : Below w.heap.size w W) : SeesL W W.heap.size v l := (h.below (hb.mono hB)).more (Nat.le_trans hB hb.size)
theorem seesLL_two (W : World) (v1 v2 : Value) (l1 l2 : List Bs) (h1 : SeesL W W.heap.size v1 l1) (h2 : SeesL W W.heap.size v2 l2) (W2 : World) (hb : Below (W.alloc (.cells #[v1, v2] 35)).heap.size (W.alloc (.cells #[v1, v2] 35)) W2) :
    SeesLL W2 (W.alloc (.cells #[v1, v2] 35)).heap.size (.slice (some ⟨W.heap.size, 0, none⟩) 2 2) [l1, l2] := by
  have hbx := Box.below (Box.new W 35 [v1, v2]) hb
  have hal := balloc W (.cells #[v1, v2] 35)
  refine ⟨[v1, v2], ⟨rfl, _, 2, rfl, Nat.le_refl _, by unfold maxLen; omega, fun _ => ⟨W.heap.size, 0, rfl, by simp, fun j u hj => ?_⟩⟩, fun k hk => ?_⟩
  · rw [Nat.zero_add, hbx.cell j]; exact hj
  · have hh : ∀ {v : Value} {l : List Bs}, SeesL W W.heap.size v l → SeesL W2 (W.alloc (.cells #[v1, v2] 35)).heap.size v l := fun h => ((h.below hal).below (hb.mono hal.size)).more hal.size
    rcases (by simp at hk; omega : k = 0 ∨ k = 1) with rfl | rfl
    · exact ⟨v1, rfl, hh h1⟩
    · exact ⟨v2, rfl, hh h2⟩
theorem concat_lit (W : World) (v1 v2 : Value) (l1 l2 : List Bs) (h1 : SeesL W W.heap.size v1 l1) (h2 : SeesL W W.heap.size v2 l2) (hl : (l1 ++ l2).length ≤ 1048576) :
    Calls Tryz.prog 113 #[.slice (some ⟨W.heap.size, 0, none⟩) 2 2] (W.alloc (.cells #[v1, v2] 35)).drew fun e w' => ∃ v, e = .returned v ∧ OwnL w' W.heap.size v (l1 ++ l2) ∧ Below W.heap.size W w' := by
  have hfl : [l1, l2].flatten = l1 ++ l2 := by simp
  have h := concatL_any (W.alloc (.cells #[v1, v2] 35)).heap.size (.slice (some ⟨W.heap.size, 0, none⟩) 2 2) [l1, l2] (W.alloc (.cells #[v1, v2] 35)).drew
    (seesLL_two W v1 v2 l1 l2 h1 h2 _ (bdrew _)) (fun W3 h3 => seesLL_two W v1 v2 l1 l2 h1 h2 W3 ((bdrew _).trans h3)) (Nat.le_refl _) (by rw [hfl]; exact hl)
  rw [hfl] at h
  exact h.mono fun _ _ ⟨v, e, g1, g2⟩ => ⟨v, e, g1.mono (balloc W _).size, bgo (balloc W _) ((bdrew _).trans g2)⟩
set_option maxRecDepth 100000 in
theorem sigbytes_any (B : Nat) (u u2 : Value) (es ps : List Bs) (h i : Nat) (w : World) (hu : SeesL w B u es) (hu2 : SeesL w B u2 ps) (hB : B ≤ w.heap.size) (hh : h < 256) (hi : i < 4294967296) (he : 1 ≤ es.length) (hlen : es.length + ps.length ≤ 200) (hfl : (es ++ ps).flatten.length ≤ 1048576) :
    Calls Tryz.prog 81 #[.agg #[.int .i64 (h : Int), .int .i64 (i : Int), u, u2]] w (Gives ([UInt8.ofNat h] ++ putB 4 i ++ es.flatten ++ ps.flatten) w) := by
  obtain ⟨A, c, rfl, -, -⟩ := hu.mk_
  obtain ⟨AA, cc, rfl, -, -⟩ := hu2.mk_
  replace hu := Lib.hid hu
  replace hu2 := Lib.hid hu2
  have hl4 := Lib.hid (putB_len 4 i)
  have hsb := Lib.hid (fun W => sbegin_any h i W hh hi)
  go_enter Tryz.func81, Tryz.ntmps81
  go_wp2_with fail
  have hb0 := balloc w (.cells #[.int .i64 (h : Int), .int .i64 (i : Int), .slice A es.length c, .slice AA ps.length cc] 123)
  have hbx := Box.new w 123 [.int .i64 (h : Int), .int .i64 (i : Int), .slice A es.length c, .slice AA ps.length cc]
  change Code.wp _ _ _ _ (w.alloc (.cells #[.int .i64 (h : Int), .int .i64 (i : Int), .slice A es.length c, .slice AA ps.length cc] 123))
  have hlt : w.heap.size < (w.alloc (.cells #[.int .i64 (h : Int), .int .i64 (i : Int), .slice A es.length c, .slice AA ps.length cc] 123)).heap.size := hbx.lt
  generalize w.alloc (.cells #[.int .i64 (h : Int), .int .i64 (i : Int), .slice A es.length c, .slice AA ps.length cc] 123) = w0 at *
  have c0 : w0.cell? ⟨w.heap.size, 0, none⟩ = some (.int .i64 (h : Int)) := hbx.cell 0
  have c1 : w0.cell? ⟨w.heap.size, 1, none⟩ = some (.int .i64 (i : Int)) := hbx.cell 1
  have c2 : w0.cell? ⟨w.heap.size, 2, none⟩ = some (.slice A es.length c) := hbx.cell 2
  have c3 : w0.cell? ⟨w.heap.size, 3, none⟩ = some (.slice AA ps.length cc) := hbx.cell 3
  obtain ⟨g0, hg⟩ : ∃ g0, g0 = w.heap.size := ⟨_, rfl⟩
  rw [← hg] at c0 c1 c2 c3 hlt ⊢
  replace hg := Lib.hid hg
  have hcc := Lib.hid (concat_lit w0 _ _ _ _ (seesL_of hu.out hB hb0) (seesL_of hu2.out hB hb0) (by rw [List.length_append]; omega))
  replace hb0 := Lib.hid hb0
  clear hbx
  have hlen1 : 1 ≤ (es ++ ps).length ∧ (es ++ ps).length ≤ 200 := by rw [List.length_append]; omega
  have hfin : Hid (([[UInt8.ofNat h] ++ putB 4 i] ++ (es ++ ps)).flatten = [UInt8.ofNat h] ++ putB 4 i ++ es.flatten ++ ps.flatten) := by show _ = _; simp
  have hfl2 : Hid ((([UInt8.ofNat h] ++ putB 4 i) :: (es ++ ps)).flatten.length ≤ 1099511627776) := by show _ ≤ _; rw [List.flatten_cons, List.length_append]; simp [hl4.out] at hfl ⊢; omega
  generalize es ++ ps = ls at *
  generalize hhd : [UInt8.ofNat h] ++ putB 4 i = hd at *
  replace hhd := Lib.hid hhd
  have K : Hid (∀ W : World, Below w0.heap.size w0 W → W.cell? ⟨g0, 0, none⟩ = some (.int .i64 (h : Int)) ∧ W.cell? ⟨g0, 1, none⟩ = some (.int .i64 (i : Int)) ∧ W.cell? ⟨g0, 2, none⟩ = some (.slice A es.length c) ∧ W.cell? ⟨g0, 3, none⟩ = some (.slice AA ps.length cc)) :=
    fun W hW => ⟨(hW.cell (p := ⟨g0, 0, none⟩) hlt).trans c0, (hW.cell (p := ⟨g0, 1, none⟩) hlt).trans c1, (hW.cell (p := ⟨g0, 2, none⟩) hlt).trans c2, (hW.cell (p := ⟨g0, 3, none⟩) hlt).trans c3⟩
  go_region_held3 (fun W' : World => W'.cell? ⟨g0, 0, none⟩ = some (.int .i64 (h : Int)) ∧ W'.cell? ⟨g0, 1, none⟩ = some (.int .i64 (i : Int)) ∧ W'.cell? ⟨g0, 2, none⟩ = some (.slice A es.length c) ∧ W'.cell? ⟨g0, 3, none⟩ = some (.slice AA ps.length cc))
    (first | exact K.out _ hb4 | exact K.out _ hb3 | (refine K.out _ ?_; (repeat (first | exact Below.refl _ _ | (refine bgo ?_ (balloc _ _)) | (refine bgo ?_ (bdrew _)) | (refine bgo ?_ (by assumption)))); done) | (go_keep; done))
    (first
      | (go_at_call 82; refine (concat_any _ _ _ _ h3.sees (Nat.le_refl _) hfl2.out).mono ?_; rintro e w4 ⟨v4, rfl, h4, hb4⟩
         replace h4 := h4.mono hb3.size
         replace hb4 := bgo hb3 hb4)
      | (go_at_call 112
         refine (insert_any w0.heap.size g1 w2.heap.size ls.length c1' (.slice A2 hd.length c2') hd ls _ hrow hlen1.1 hlen1.2 (Box.new w2 23 [.slice A2 hd.length c2']) hgne hel (Nat.le_trans hb2'.size (balloc w2 _).size)).mono ?_
         rintro e w3 ⟨v3, rfl, h3, hb3'⟩
         have hb3 := (bgo hb2' (balloc w2 (.cells #[.slice A2 hd.length c2'] 23))).trans hb3'
         clear hb3')
      | (go_at_call 114; refine (hsb.out _).mono ?_; rintro e w2 ⟨v2, rfl, h2, hb2⟩
         have hb2' := bgo hb1 hb2
         have hrow := (h1.below hb2).below (balloc w2 (.cells #[v2] 23))
         have hel := (Elt.of_from (v := .slice (some ⟨g1, 0, none⟩) ls.length c1') h2.sees h2.from (fun k hk => (h1.lt k hk).2)).below (balloc w2 (.cells #[v2] 23))
         have hgne : w2.heap.size ≠ g1 := by have := (h1.lt g1 rfl).2; have := hb2.size; omega
         obtain ⟨A2, c2', rfl, -, -⟩ := h2.sees.mk_)
      | (go_at_call 113; refine hcc.out.mono ?_; rintro e w1 ⟨v1, rfl, h1, hb1⟩
         obtain ⟨A1, c1', rfl⟩ := h1.shape
         obtain ⟨g1, rfl⟩ := h1.at_ hlen1.1))
  all_goals
    go_wp2_with fail
    go_ret
    rw [show hd :: ls = [hd] ++ ls from rfl, hfin.out] at h4
    replace h4 := h4.mono hb0.out.size
    rw [← hhd.out] at h4
    exact ⟨v4, rfl, by simpa using h4, bgo hb0.out hb4⟩
end
section
open Go.RowKit
set_option linter.unusedVariables false
attribute [local go_sem ↓] Go.wp_at_zero Go.wp_at_succ
def validI (seed : Bs) (h n : Int) : Bool := decide (seed.length = 32) && (decide (0 ≤ h) && decide (h ≤ 6)) && decide (0 ≤ n) && decide (n ≤ 2 ^ h.toNat)
theorem tall_yes (h : Int) (w : World) (h0 : 0 ≤ h) (h1 : h ≤ 6) : Calls Tryz.prog 103 #[.int .i64 h] w fun e w' => e = .returned (.bool true) ∧ w' = w := by
  go_enter Tryz.func103, Tryz.ntmps103
  go_wp2
  go_ret
  exact ⟨rfl, rfl⟩
theorem tall_no (h : Int) (w : World) (h0 : h < 0 ∨ 6 < h) : Calls Tryz.prog 103 #[.int .i64 h] w fun e w' => e = .returned (.bool false) ∧ w' = w := by
  by_cases h1 : 0 ≤ h
  · have h2 : ¬ (h ≤ 6) := by omega
    go_enter Tryz.func103, Tryz.ntmps103
    go_wp2
    go_ret
    exact ⟨rfl, rfl⟩
  · go_enter Tryz.func103, Tryz.ntmps103
    go_wp2
    go_ret
    exact ⟨rfl, rfl⟩
set_option maxRecDepth 100000 in
theorem svalid_any (B : Nat) (u : Value) (seed : Bs) (h n : Int) (w : World) (hu : SeesB w B u seed) :
    Calls Tryz.prog 73 #[.agg #[u, .int .i64 h, .int .i64 n]] w (BoolPost (validI seed h n) w) := by
  obtain ⟨A, c, rfl, -, -⟩ := hu.mk_
  clear hu
  have hbb : ∀ k, Below w.heap.size w ((w.alloc (.cells #[.slice A seed.length c, .int .i64 h, .int .i64 n] 25)).drewN k) := fun k => below_drewN (balloc w _) k
  replace hbb := Lib.hid hbb
  by_cases hl : seed.length = 32
  · by_cases hh : 0 ≤ h ∧ h ≤ 6
    · by_cases hn : 0 ≤ n
      · have hv : Hid (validI seed h n = decide (n ≤ 2 ^ h.toNat)) := by show _ = _; simp [validI, hl, hh, hn]
        obtain ⟨h0, h1⟩ := hh
        obtain ⟨k, rfl⟩ := Int.eq_ofNat_of_zero_le h0
        rw [Int.toNat_natCast] at hv
        have hp := wrap_pow k (by omega)
        have hpc : ((2 ^ k : Nat) : Int) = (2 : Int) ^ k := by simp
        rw [← hpc] at hv
        replace hpc := Lib.hid hpc
        have hp64 := pow_le64 k (by omega)
        generalize 2 ^ k = N at *
        rw [hl] at hbb ⊢
        by_cases hN : n ≤ (N : Int)
        · go_enter Tryz.func73, Tryz.ntmps73
          go_wp2_with fail
          go_quiet ((go_at_call 103; exact Calls.quiet_of_same (tall_yes _ _ (by omega) (by omega))))
          go_wp2_with fail
          go_ret
          exact ⟨ret_bool (by rw [hv.out]; simp [hN]), hbb.out _⟩
        · go_enter Tryz.func73, Tryz.ntmps73
          go_wp2_with fail
          go_quiet ((go_at_call 103; exact Calls.quiet_of_same (tall_yes _ _ (by omega) (by omega))))
          go_wp2_with fail
          go_ret
          exact ⟨ret_bool (by rw [hv.out]), hbb.out _⟩
      · have hv : Hid (validI seed h n = false) := by show _ = _; simp [validI, hn]
        obtain ⟨h0, h1⟩ := hh
        rw [hl] at hbb ⊢
        have hn0 : decide (0 ≤ n) = false := by simpa using hn
        go_enter Tryz.func73, Tryz.ntmps73
        go_wp2_with fail
        go_quiet ((go_at_call 103; exact Calls.quiet_of_same (tall_yes _ _ (by omega) (by omega))))
        go_wp2_with fail
        go_ret
        exact ⟨ret_bool (by rw [hv.out]), hbb.out _⟩
    · have hv : Hid (validI seed h n = false) := by show _ = _; simp [validI]; omega
      rw [hl] at hbb ⊢
      go_enter Tryz.func73, Tryz.ntmps73
      go_wp2_with fail
      go_quiet ((go_at_call 103; exact Calls.quiet_of_same (tall_no _ _ (by omega))))
      go_wp2_with fail
      go_ret
      exact ⟨ret_bool (by rw [hv.out]), hbb.out _⟩
  · have hv : Hid (validI seed h n = false) := by show _ = _; simp [validI, hl]
    have hl2 : ((seed.length : Int) == 32) = false := by rw [beq_eq_false_iff_ne]; omega
    go_enter Tryz.func73, Tryz.ntmps73
    go_wp2_with fail
    go_quiet ((go_at_call 103; exact Calls.quiet_of_same (tall_no _ _ (by omega))))
    go_wp2_with fail
    go_ret
    exact ⟨ret_bool (by rw [hv.out]), hbb.out _⟩
set_option maxRecDepth 100000 in
theorem rsvalid_any (B : Nat) (u : Value) (seed : Bs) (h n : Int) (w : World) (hu : SeesB w B u seed) :
    Calls Tryz.prog 28 #[.agg #[u, .int .i64 h, .int .i64 n]] w (BoolPost (validI seed h n) w) := by
  obtain ⟨A, c, rfl, -, -⟩ := hu.mk_
  clear hu
  have hbb : Below w.heap.size w (w.alloc (.cells #[.slice A seed.length c, .int .i64 h, .int .i64 n] 25)) := balloc w _
  replace hbb := Lib.hid hbb
  by_cases hl : seed.length = 32
  · by_cases hh : 0 ≤ h ∧ h ≤ 6
    · by_cases hn : 0 ≤ n
      · have hv : Hid (validI seed h n = decide (n ≤ 2 ^ h.toNat)) := by show _ = _; simp [validI, hl, hh, hn]
        obtain ⟨h0, h1⟩ := hh
        obtain ⟨k, rfl⟩ := Int.eq_ofNat_of_zero_le h0
        rw [Int.toNat_natCast] at hv
        have hp := wrap_pow k (by omega)
        have hpc : ((2 ^ k : Nat) : Int) = (2 : Int) ^ k := by simp
        rw [← hpc] at hv
        replace hpc := Lib.hid hpc
        have hp64 := pow_le64 k (by omega)
        generalize 2 ^ k = N at *
        rw [hl] at hbb ⊢
        go_enter Tryz.func28, Tryz.ntmps28
        go_wp2_with fail
        go_ret
        exact ⟨ret_bool (by rw [hv.out]), hbb.out⟩
      · have hv : Hid (validI seed h n = false) := by show _ = _; simp [validI, hn]
        obtain ⟨h0, h1⟩ := hh
        rw [hl] at hbb ⊢
        have hn0 : decide (0 ≤ n) = false := by simpa using hn
        go_enter Tryz.func28, Tryz.ntmps28
        go_wp2_with fail
        go_ret
        exact ⟨ret_bool (by rw [hv.out]), hbb.out⟩
    · have hv : Hid (validI seed h n = false) := by show _ = _; simp [validI]; omega
      rw [hl] at hbb ⊢
      by_cases h0 : 0 ≤ h
      · have h1 : decide (h ≤ 6) = false := by simp; omega
        go_enter Tryz.func28, Tryz.ntmps28
        go_wp2_with fail
        go_ret
        exact ⟨ret_bool (by rw [hv.out]), hbb.out⟩
      · have h1 : decide (0 ≤ h) = false := by simpa using h0
        go_enter Tryz.func28, Tryz.ntmps28
        go_wp2_with fail
        go_ret
        exact ⟨ret_bool (by rw [hv.out]), hbb.out⟩
  · have hv : Hid (validI seed h n = false) := by show _ = _; simp [validI, hl]
    have hl2 : ((seed.length : Int) == 32) = false := by rw [beq_eq_false_iff_ne]; omega
    go_enter Tryz.func28, Tryz.ntmps28
    go_wp2_with fail
    go_ret
    exact ⟨ret_bool (by rw [hv.out]), hbb.out⟩
end
section
open Go.RowKit
set_option linter.unusedVariables false
attribute [local go_sem ↓] Go.wp_at_zero Go.wp_at_succ
def SignOk (seed : Bs) (h i : Nat) (m : Bs) (w : World) (e : Ending) (w' : World) : Prop :=
  ∃ v v2, e = .returned (.tuple #[.agg #[v, .int .i64 (h : Int), .int .i64 ((i + 1 : Nat) : Int)], v2, .int .i64 0]) ∧ SeesB w' w'.heap.size v seed ∧ SeesB w' w'.heap.size v2 (sigG seed h i m) ∧ Below w.heap.size w w'
def SignBad (c : Int) (w : World) (e : Ending) (w' : World) : Prop :=
  e = .returned (.tuple #[.agg #[.slice none 0 0, .int .i64 0, .int .i64 0], .slice none 0 0, .int .i64 c]) ∧ Below w.heap.size w w'
theorem validI_mk (seed : Bs) (h i : Nat) (hl : seed.length = 32) (hh : h ≤ 6) (hi : i ≤ 2 ^ h) : validI seed (h : Int) (i : Int) = true := by
  have : (i : Int) ≤ ((2 ^ h : Nat) : Int) := by omega
  simp [validI, hl] at this ⊢
  omega
/-- No cell of this block is a byte. -/
def NoByte (xs : List Value) : Prop := ∀ x ∈ xs, ∀ n, x ≠ .int .u8 n
theorem SeesB.notin {w : World} {B G : Nat} {T : TypeId} {u : Value} {l : Bs} {xs : List Value} (h : SeesB w B u l) (hbx : Box w G T xs) (hno : NoByte xs) (hl : l ≠ []) : u.ownBlock ≠ some G := by
  intro e
  obtain ⟨A, c, rfl, -, -⟩ := h.mk_
  obtain ⟨b, o, rfl, -, hc⟩ := h.at_ (List.length_pos_iff.2 hl)
  cases e
  have h0 := hc 0 (List.length_pos_iff.2 hl)
  rw [hbx.cell] at h0
  exact hno _ (List.mem_of_getElem? h0) _ rfl
theorem setCell_grown (w : World) (G j : Nat) (v : Value) : w.grownBy (w.setCell ⟨G, j, none⟩ v) (some G) := ⟨rfl, rfl, rfl, by simp [World.setCell], fun k hk hne => Below.heap_setCell w ⟨G, j, none⟩ v k (fun e => hne (by rw [e]))⟩
theorem OwnL.poke {w : World} {base G j : Nat} {T : TypeId} {v v' : Value} {ls : List Bs} {xs : List Value} (h : OwnL w base v ls) (hG : G < base) (hbx : Box w G T xs) (hno : NoByte xs) : OwnL (w.setCell ⟨G, j, none⟩ v') base v ls := by
  have hlt := h.lt
  obtain ⟨vs, h1, h2⟩ := h
  have hne : v.ownBlock ≠ some G := fun e => by have := (hlt G e).1; omega
  refine ⟨vs, h1.kept (setCell_grown w G j v') (.inr hne), fun k hk => ?_⟩
  obtain ⟨u, e1, e2⟩ := h2 k hk
  refine ⟨u, e1, SeesB.more (e2.1.stay fun hl k hk p hp => World.cell?_setCell_other w _ p v' (fun e => ?_)) (by simp [World.setCell]), e2.2⟩
  exact e2.1.notin hbx hno hl (by rw [hk, ← hp, ← e])
theorem SeesB.poke {w : World} {B G j : Nat} {T : TypeId} {u v' : Value} {l : Bs} {xs : List Value} (h : SeesB w B u l) (hbx : Box w G T xs) (hno : NoByte xs) : SeesB (w.setCell ⟨G, j, none⟩ v') B u l :=
  h.stay fun hl k hk p hp => World.cell?_setCell_other w _ p v' (fun e => h.notin hbx hno hl (by rw [hk, ← hp, ← e]))
theorem Box.other {w : World} {g G j : Nat} {T : TypeId} {v : Value} {xs : List Value} (h : Box w g T xs) (hne : g ≠ G) : Box (w.setCell ⟨G, j, none⟩ v) g T xs := (Below.heap_setCell w ⟨G, j, none⟩ v g hne).trans h
theorem noByte4 (h i : Int) (a b : Value) (ha : ∀ n, a ≠ .int .u8 n) (hb : ∀ n, b ≠ .int .u8 n) : NoByte [.int .i64 h, .int .i64 i, a, b] := by
  intro x hx n e
  simp only [List.mem_cons, List.not_mem_nil, or_false] at hx
  rcases hx with rfl | rfl | rfl | rfl
  · cases e
  · cases e
  · exact ha n e
  · exact hb n e
theorem cell_set3 (W : World) (q : Nat) (p : Addr) (hne : p.block ≠ q) (a b c : Value) : (((W.setCell ⟨q, 0, none⟩ a).setCell ⟨q, 1, none⟩ b).setCell ⟨q, 2, none⟩ c).cell? p = W.cell? p := by
  rw [World.cell?_setCell_other _ _ _ _ (fun e => hne (by rw [← e])), World.cell?_setCell_other _ _ _ _ (fun e => hne (by rw [← e])), World.cell?_setCell_other _ _ _ _ (fun e => hne (by rw [← e]))]
set_option maxRecDepth 100000 in
set_option maxHeartbeats 4000000 in
theorem sign_ok (B : Nat) (u u2 : Value) (seed m : Bs) (h i : Nat) (w : World) (hu : SeesB w B u seed) (hu2 : SeesB w B u2 m) (hB : B ≤ w.heap.size) (hl : seed.length = 32) (hh : h ≤ 6) (hi : i < 2 ^ h) (hm : m.length ≤ 65535) :
    Calls Tryz.prog 44 #[.agg #[u, .int .i64 (h : Int), .int .i64 (i : Int)], u2] w (SignOk seed h i m w) := by
  obtain ⟨A, c, rfl, -, -⟩ := hu.mk_
  obtain ⟨AA, cc, rfl, -, -⟩ := hu2.mk_
  have hvI := validI_mk seed h i hl hh (Nat.le_of_lt hi)
  have hp := wrap_pow h hh
  have hp64 := pow_le64 h hh
  have hval := fun W (hW : SeesB W B (.slice A seed.length c) seed) => svalid_any B _ seed h i W hW
  rw [hvI] at hval
  have hlv := fun W (hW : SeesB W W.heap.size (.slice A seed.length c) seed) => leaves_any W.heap.size _ seed h W hW (Nat.le_refl _) hl hh
  have hclone := fun W (hW : SeesB W W.heap.size (.slice A seed.length c) seed) => clone_any W.heap.size _ seed W hW (Nat.le_refl _) (by omega)
  have hsg := fun W (v2 : Value) (d : Bs) (hd : d.length = 16) (hW : SeesB W W.heap.size (.slice A seed.length c) seed) (h2 : SeesB W W.heap.size v2 d) => otsign_any W.heap.size _ v2 seed d i W hW h2 (Nat.le_refl _) hl hd (by omega)
  have hdg := fun W (v2 : Value) (p : Bs) (hp : p.length = 32) (hW : SeesB W W.heap.size v2 p) (h2 : SeesB W W.heap.size (.slice AA m.length cc) m) => digest_any W.heap.size v2 _ p m i W hW h2 (Nat.le_refl _) (by omega) (by omega) (by omega)
  have hbytes := fun W (v1 v2 : Value) (es ps : List Bs) (h1 : SeesL W W.heap.size v1 es) (h2 : SeesL W W.heap.size v2 ps) => sigbytes_any W.heap.size v1 v2 es ps h i W h1 h2 (Nat.le_refl _) (by omega) (by omega)
  rw [hl] at hu hval hlv hclone hsg ⊢
  replace hu := Lib.hid hu
  replace hu2 := Lib.hid hu2
  replace hvI := Lib.hid hvI
  replace hval := Lib.hid hval
  replace hlv := Lib.hid hlv
  replace hclone := Lib.hid hclone
  replace hsg := Lib.hid hsg
  replace hdg := Lib.hid hdg
  replace hbytes := Lib.hid hbytes
  replace hl := Lib.hid hl
  have hkl := Lib.hid (keyG_len seed h)
  have hleaves := Lib.hid (leavesL_len seed (2 ^ h))
  have hsig : Hid ([UInt8.ofNat h] ++ putB 4 i ++ (signL seed i (digG (keyG seed h) i m)).flatten ++ (pathG (hashesG seed h) i).flatten = sigG seed h i m) := rfl
  have hkey : Hid (rootG ((leavesL seed (2 ^ h)).map leafH) = keyG seed h) := rfl
  have hpath : Hid (pathG ((leavesL seed (2 ^ h)).map leafH) i = pathG (hashesG seed h) i) := rfl
  have hel : Hid (∀ x ∈ leavesL seed (2 ^ h), x.length = 16) := leavesL_el seed _
  have hpl := Lib.hid (pathG_len h _ i (hashesG_len seed h))
  have hpe : Hid (∀ x ∈ pathG (hashesG seed h) i, x.length = 32) := pathG_el _ _ _ (Nat.le_refl _) (hashesG_el seed h)
  generalize leavesL seed (2 ^ h) = LV at *
  generalize hN : 2 ^ h = N at *
  have hi2 : ((i : Int) == (N : Int)) = false := by rw [beq_eq_false_iff_ne]; omega
  replace hN := Lib.hid hN
  go_enter Tryz.func44, Tryz.ntmps44
  go_wp2_with fail
  have hb0 : Below w.heap.size w ((w.alloc (.cells #[.slice A 32 c, .int .i64 (h : Int), .int .i64 (i : Int)] 25)).alloc (.cells #[.slice none 0 0, .int .i64 0, .int .i64 0] 25)) := bgo (balloc w _) (balloc _ _)
  have hx1 := Box.below (Box.new w 25 [.slice A 32 c, .int .i64 (h : Int), .int .i64 (i : Int)]) (balloc _ (.cells #[.slice none 0 0, .int .i64 0, .int .i64 0] 25))
  have hx2 := Box.new (w.alloc (.cells #[.slice A 32 c, .int .i64 (h : Int), .int .i64 (i : Int)] 25)) 25 [.slice none 0 0, .int .i64 0, .int .i64 0]
  have hz : (w.alloc (.cells #[.slice A 32 c, .int .i64 (h : Int), .int .i64 (i : Int)] 25)).heap.size = w.heap.size + 1 := World.size_alloc _ _
  rw [hz] at hx2
  change Box ((w.alloc (.cells #[.slice A 32 c, .int .i64 (h : Int), .int .i64 (i : Int)] 25)).alloc (.cells #[.slice none 0 0, .int .i64 0, .int .i64 0] 25)) _ _ _ at hx1 hx2
  generalize (w.alloc (.cells #[.slice A 32 c, .int .i64 (h : Int), .int .i64 (i : Int)] 25)).alloc (.cells #[.slice none 0 0, .int .i64 0, .int .i64 0] 25) = W0 at *
  clear hz
  obtain ⟨g, hg⟩ : ∃ g, g = w.heap.size := ⟨_, rfl⟩
  rw [← hg] at hx1 hx2 ⊢
  replace hg := Lib.hid hg
  replace hb0 := Lib.hid hb0
  refine (hval.out W0 (hu.out.below (hb0.out.mono hB))).mono ?_
  rintro e W1 ⟨rfl, hb1⟩
  replace hx1 := hx1.below hb1
  replace hx2 := hx2.below hb1
  replace hb1 := Lib.hid (bgo hb0.out hb1)
  have c0 : W1.cell? ⟨g, 0, none⟩ = some (.slice A 32 c) := hx1.cell 0
  have c1 : W1.cell? ⟨g, 1, none⟩ = some (.int .i64 (h : Int)) := hx1.cell 1
  have c2 : W1.cell? ⟨g, 2, none⟩ = some (.int .i64 (i : Int)) := hx1.cell 2
  clear hval hb0
  replace hx1 := Lib.hid hx1
  replace hx2 := Lib.hid hx2
  dsimp only
  go_wp2_with fail
  go_quiet (fail)
  go_wp2_with fail
  have hx1q : Box (W1.drewN nq) g 25 _ := hx1.out
  have hx2q : Box (W1.drewN nq) (g + 1) 25 _ := hx2.out
  have hb1q := below_drewN hb1.out nq
  clear hx1 hx2 hb1 c0 c1 c2
  generalize W1.drewN nq = W1 at *
  refine (hlv.out W1 (seesB_of (hu.out.more hB) (Nat.le_refl _) hb1q)).mono ?_
  rintro e W2 ⟨v2, rfl, h2, hb2⟩
  have hrt := root_top LV W2.heap.size v2 W2 h2.sees (Nat.le_refl _) (by rw [hleaves.out]; omega) (fun x hx => by rw [hel.out x hx]; omega)
  unfold RootPost at hrt
  rw [hkey.out] at hrt
  obtain ⟨A2, c2', rfl⟩ := h2.shape
  rw [hleaves.out] at hrt h2 ⊢
  replace hx1 := hx1q.below hb2
  replace hx2 := hx2q.below hb2
  replace hb2 := bgo hb1q hb2
  replace h2 := Lib.hid h2
  replace hrt := Lib.hid hrt
  clear hlv hx1q hx2q hb1q
  dsimp only
  go_wp2_with fail
  refine hrt.out.mono ?_
  rintro e W3 ⟨v3, rfl, h3, hb3⟩
  replace h2 := h2.out.below hb3
  replace hx1 := hx1.below hb3
  replace hx2 := hx2.below hb3
  replace hb3 := bgo hb2 hb3
  clear hb2 hrt
  have c0 : W3.cell? ⟨g, 0, none⟩ = some (.slice A 32 c) := hx1.cell 0
  have c1 : W3.cell? ⟨g, 1, none⟩ = some (.int .i64 (h : Int)) := hx1.cell 1
  have c2 : W3.cell? ⟨g, 2, none⟩ = some (.int .i64 (i : Int)) := hx1.cell 2
  obtain ⟨A3, c3, rfl, -, -⟩ := h3.sees.mk_
  rw [hkl.out] at h3 ⊢
  have hgl := hx1.lt
  have hgl2 := hx2.lt
  replace hx1 := Lib.hid hx1
  replace hx2 := Lib.hid hx2
  replace hb3 := Lib.hid hb3
  replace h3 := Lib.hid h3
  replace h2 := Lib.hid h2
  dsimp only
  go_wp2_with fail
  have hb4 := balloc W3 (.cells #[.int .i64 (h : Int), .int .i64 (i : Int), .slice none 0 0, .slice none 0 0] 123)
  have hx3 := Box.new W3 123 [.int .i64 (h : Int), .int .i64 (i : Int), .slice none 0 0, .slice none 0 0]
  have h24 := h2.out.below hb4
  have h34 := h3.out.below hb4
  have hx14 := hx1.out.below hb4
  have hx24 := hx2.out.below hb4
  have hb34 := bgo hb3.out hb4
  clear c0 c1 c2 h2 h3 hx1 hx2
  change Calls _ _ _ (W3.alloc (.cells #[.int .i64 (h : Int), .int .i64 (i : Int), .slice none 0 0, .slice none 0 0] 123)) _
  generalize W3.alloc (.cells #[.int .i64 (h : Int), .int .i64 (i : Int), .slice none 0 0, .slice none 0 0] 123) = W4 at *
  obtain ⟨G, hG⟩ : ∃ G, G = W3.heap.size := ⟨_, rfl⟩
  rw [← hG] at hx3 hgl hgl2 ⊢
  have hwG : w.heap.size ≤ G := by have := hb3.out.size; omega
  replace hG := Lib.hid hG
  have hpt := path_top LV i W4.heap.size (.slice A2 N c2') W4 h24.sees (by rw [hleaves.out]; exact hi) (Nat.le_refl _) (by rw [hleaves.out]; omega) (fun x hx => by rw [hel.out x hx]; omega)
  unfold PathPost at hpt
  rw [hpath.out] at hpt
  generalize pathG (hashesG seed h) i = PT at *
  refine hpt.mono ?_
  rintro e W5 ⟨v5, rfl, h5, hb5⟩
  obtain ⟨A5, c5, rfl⟩ := h5.shape
  rw [hpl.out] at h5 ⊢
  have hG4 := hx3.lt
  replace hx1 := hx14.below hb5
  replace hx2 := hx24.below hb5
  replace hx3 := hx3.below hb5
  replace h3 := h34.below hb5
  replace hb5 := bgo hb34 hb5
  have y3 : W5.cell? ⟨G, 3, none⟩ = some (.slice none 0 0) := hx3.cell 3
  have f3 := hx3.frozen 3
  clear hpt h24 hb4 h34 hx14 hx24 hb34 hb3
  replace hx1 := Lib.hid hx1
  replace hx2 := Lib.hid hx2
  replace hx3 := Lib.hid hx3
  replace hb5 := Lib.hid hb5
  replace h3 := Lib.hid h3
  replace h5 := Lib.hid h5
  dsimp only
  go_wp2_with fail
  have hno := noByte4 (h : Int) (i : Int) (.slice none 0 0) (.slice none 0 0) (fun n e => by cases e) (fun n e => by cases e)
  have h56 := h5.out.poke (j := 3) (v' := .slice A5 h c5) hG4 hx3.out hno
  have h36 := (SeesB.poke (j := 3) (v' := .slice A5 h c5) h3.out.sees hx3.out hno).more (B' := (W5.setCell ⟨G, 3, none⟩ (.slice A5 h c5)).heap.size) (by simp [World.setCell])
  have hx16 := hx1.out.other (j := 3) (v := .slice A5 h c5) (show g ≠ G by omega)
  have hx26 := hx2.out.other (j := 3) (v := .slice A5 h c5) (show g + 1 ≠ G by omega)
  have hx36 := hx3.out.set 3 (.slice A5 h c5)
  have hb6 : Below w.heap.size w (W5.setCell ⟨G, 3, none⟩ (.slice A5 h c5)) := hb5.out.setCell (p := ⟨G, 3, none⟩) hwG _
  simp only [List.set_cons_succ, List.set_cons_zero] at hx36
  clear h5 h3 hx1 hx2 hx3 hb5 y3 f3 hno
  generalize W5.setCell ⟨G, 3, none⟩ (.slice A5 h c5) = W6 at *
  have hg0 := Lib.hid (hdg.out W6.drew (.slice A3 32 c3) (keyG seed h) hkl.out h36 (seesB_of (hu2.out.more hB) (Nat.le_refl _) (hb6.drew)))
  have hd16 : Hid ((digG (keyG seed h) i m).length = 16) := short_len _
  generalize digG (keyG seed h) i m = DG at *
  have hsg2 : Hid (∀ W v2, Below W6.heap.size W6 W → SeesB W W.heap.size v2 DG → Calls Tryz.prog 78 #[.slice A 32 c, .int .i64 (i : Int), v2] W (OtSignPost (signL seed i DG) W)) :=
    fun W v2 hbW h2 => hsg.out W v2 DG hd16.out (seesB_of (hu.out.more hB) (Nat.le_refl _) (bgo hb6 hbW)) h2
  have K : Hid (∀ W : World, Below W6.heap.size W6 W → W.cell? ⟨g, 0, none⟩ = some (.slice A 32 c) ∧ W.cell? ⟨g, 2, none⟩ = some (.int .i64 (i : Int))) :=
    fun W hW => ⟨(hW.cell (p := ⟨g, 0, none⟩) hx16.lt).trans (hx16.cell 0), (hW.cell (p := ⟨g, 2, none⟩) hx16.lt).trans (hx16.cell 2)⟩
  have y0 : W6.cell? ⟨g, 0, none⟩ = some (.slice A 32 c) := hx16.cell 0
  have y2 : W6.cell? ⟨g, 2, none⟩ = some (.int .i64 (i : Int)) := hx16.cell 2
  have hgG : g ≠ G := by omega
  have hG6 := hx36.lt
  have z2 : Hid (∀ W : World, Below W6.heap.size W6 W → W.cell? ⟨G, 2, none⟩ = some (.slice none 0 0) ∧ W.frozen? ⟨G, 2, none⟩ = false) := fun W hW => ⟨(hx36.below hW).cell 2, (hx36.below hW).frozen 2⟩
  have K2 : Hid (∀ (W : World) (v : Value), Below W6.heap.size W6 W → (W.setCell ⟨G, 2, none⟩ v).cell? ⟨g, 0, none⟩ = some (.slice A 32 c) ∧ (W.setCell ⟨G, 2, none⟩ v).cell? ⟨g, 2, none⟩ = some (.int .i64 (i : Int))) :=
    fun W v hW => ⟨(World.cell?_setCell_other W _ _ v (fun e => by cases e)).trans (K.out W hW).1, (World.cell?_setCell_other W _ _ v (fun e => hgG (by cases e; rfl))).trans (K.out W hW).2⟩
  replace hx16 := Lib.hid hx16
  replace hx26 := Lib.hid hx26
  replace hx36 := Lib.hid hx36
  replace h56 := Lib.hid h56
  replace hb6 := Lib.hid hb6
  clear hdg hsg h36
  go_region_held3 (fun W' : World => W'.cell? ⟨g, 0, none⟩ = some (.slice A 32 c) ∧ W'.cell? ⟨g, 2, none⟩ = some (.int .i64 (i : Int)))
    (first | exact K.out _ hb8 | exact K2.out _ _ hb8 | exact K.out _ hb7 | (go_keep; done))
    (first
      | (go_at_call 78; refine (hsg2.out _ _ hb7 h7).mono ?_; rintro e W8 ⟨v8, rfl, h8, hb8⟩
         obtain ⟨A8, c8, rfl⟩ := h8.shape
         replace hb8 := bgo hb7 hb8
         obtain ⟨q2, q3⟩ := z2.out W8 hb8)
      | (go_at_call 79; refine hg0.out.mono ?_; rintro e W7 ⟨v7, rfl, h7, hb7, -⟩
         obtain ⟨A7, c7, rfl, -, -⟩ := h7.mk_
         replace hb7 := (bdrew W6).trans hb7))
  all_goals
    have hno := noByte4 (h : Int) (i : Int) (.slice none 0 0) (.slice A5 h c5) (fun n e => by cases e) (fun n e => by cases e)
    have hx1 := (hx16.out.below hb8).other (j := 2) (v := .slice A8 (signL seed i DG).length c8) hgG
    have hx2 := (hx26.out.below hb8).other (j := 2) (v := .slice A8 (signL seed i DG).length c8) (show g + 1 ≠ G by omega)
    have hx38 := hx36.out.below hb8
    have hx3 := hx38.set 2 (.slice A8 (signL seed i DG).length c8)
    simp only [List.set_cons_succ, List.set_cons_zero] at hx3
    have h89 := h8.poke (j := 2) (v' := .slice A8 (signL seed i DG).length c8) (Nat.lt_of_lt_of_le hG6 hb7.size) hx38 hno
    have h59 := (h56.out.below hb8).poke (j := 2) (v' := .slice A8 (signL seed i DG).length c8) hG4 hx38 hno
    have hb9 : Below w.heap.size w (W8.setCell ⟨G, 2, none⟩ (.slice A8 (signL seed i DG).length c8)) := (bgo hb6.out hb8).setCell (p := ⟨G, 2, none⟩) hwG _
    have hsl := signL_len seed i DG
    have hse := signL_el seed i DG
    clear hx16 hx26 hx36 hx38 h8 h56 hb8 hb7 h7 hno K K2 z2 q2 q3 hsg2 hg0 hb6
    generalize hSL : signL seed i DG = SL at *
    replace hSL := Lib.hid hSL
    rw [hsl] at hx1 hx2 hx3 h89 h59 hb9 ⊢
    replace hsl := Lib.hid hsl
    replace hse := Lib.hid hse
    generalize W8.setCell ⟨G, 2, none⟩ (.slice A8 35 c8) = W9 at *
    have K : Hid (∀ W : World, Below W9.heap.size W9 W → W.cell? ⟨g, 0, none⟩ = some (.slice A 32 c) ∧ W.cell? ⟨g, 1, none⟩ = some (.int .i64 (h : Int)) ∧ W.cell? ⟨g, 2, none⟩ = some (.int .i64 (i : Int)) ∧
        W.cell? ⟨G, 0, none⟩ = some (.int .i64 (h : Int)) ∧ W.cell? ⟨G, 1, none⟩ = some (.int .i64 (i : Int)) ∧ W.cell? ⟨G, 2, none⟩ = some (.slice A8 35 c8) ∧ W.cell? ⟨G, 3, none⟩ = some (.slice A5 h c5)) :=
      fun W hW => ⟨(hx1.below hW).cell 0, (hx1.below hW).cell 1, (hx1.below hW).cell 2, (hx3.below hW).cell 0, (hx3.below hW).cell 1, (hx3.below hW).cell 2, (hx3.below hW).cell 3⟩
    have K3 : Hid (∀ (W : World) (a b d : Value), Below W9.heap.size W9 W → (((W.setCell ⟨g + 1, 0, none⟩ a).setCell ⟨g + 1, 1, none⟩ b).setCell ⟨g + 1, 2, none⟩ d).cell? ⟨g, 0, none⟩ = some (.slice A 32 c) ∧ (((W.setCell ⟨g + 1, 0, none⟩ a).setCell ⟨g + 1, 1, none⟩ b).setCell ⟨g + 1, 2, none⟩ d).cell? ⟨g, 1, none⟩ = some (.int .i64 (h : Int)) ∧ (((W.setCell ⟨g + 1, 0, none⟩ a).setCell ⟨g + 1, 1, none⟩ b).setCell ⟨g + 1, 2, none⟩ d).cell? ⟨g, 2, none⟩ = some (.int .i64 (i : Int)) ∧
        (((W.setCell ⟨g + 1, 0, none⟩ a).setCell ⟨g + 1, 1, none⟩ b).setCell ⟨g + 1, 2, none⟩ d).cell? ⟨G, 0, none⟩ = some (.int .i64 (h : Int)) ∧ (((W.setCell ⟨g + 1, 0, none⟩ a).setCell ⟨g + 1, 1, none⟩ b).setCell ⟨g + 1, 2, none⟩ d).cell? ⟨G, 1, none⟩ = some (.int .i64 (i : Int)) ∧ (((W.setCell ⟨g + 1, 0, none⟩ a).setCell ⟨g + 1, 1, none⟩ b).setCell ⟨g + 1, 2, none⟩ d).cell? ⟨G, 2, none⟩ = some (.slice A8 35 c8) ∧ (((W.setCell ⟨g + 1, 0, none⟩ a).setCell ⟨g + 1, 1, none⟩ b).setCell ⟨g + 1, 2, none⟩ d).cell? ⟨G, 3, none⟩ = some (.slice A5 h c5)) :=
      fun W a b d hW => by
        obtain ⟨k0, k1, k2, k3, k4, k5, k6⟩ := K.out W hW
        have e1 : ∀ o, (⟨g, o, none⟩ : Addr).block ≠ g + 1 := fun o => by dsimp only; omega
        have e2 : ∀ o, (⟨G, o, none⟩ : Addr).block ≠ g + 1 := fun o => by dsimp only; omega
        exact ⟨(cell_set3 W _ _ (e1 0) a b d).trans k0, (cell_set3 W _ _ (e1 1) a b d).trans k1, (cell_set3 W _ _ (e1 2) a b d).trans k2, (cell_set3 W _ _ (e2 0) a b d).trans k3, (cell_set3 W _ _ (e2 1) a b d).trans k4, (cell_set3 W _ _ (e2 2) a b d).trans k5, (cell_set3 W _ _ (e2 3) a b d).trans k6⟩
    obtain ⟨y0, y1, y2, y3, y4, y5, y6⟩ := K.out W9 (Below.refl _ _)
    have Z : Hid (∀ W : World, Below W9.heap.size W9 W → Box W (g + 1) 25 [.slice none 0 0, .int .i64 0, .int .i64 0]) := fun W hW => hx2.below hW
    have hlt1 := hx2.lt
    have hcl := Lib.hid (hclone.out W9.drew (seesB_of (hu.out.more hB) (Nat.le_refl _) hb9.drew))
    have hby : Hid (∀ W, Below W9.heap.size W9 W → Calls Tryz.prog 81 #[.agg #[.int .i64 (h : Int), .int .i64 (i : Int), .slice A8 35 c8, .slice A5 h c5]] W (Gives (sigG seed h i m) W)) := fun W hW => by
      have := hbytes.out W (.slice A8 35 c8) (.slice A5 h c5) SL PT (h89.below hW).sees (h59.below hW).sees (by rw [hsl.out]; omega) (by rw [hsl.out, hpl.out]; omega) (by
        rw [List.flatten_append, List.length_append, flat_len 16 SL hse.out, flat_len 32 PT hpe.out, hsl.out, hpl.out]; omega)
      rw [hsig.out] at this
      exact this
    have m5 : IntKind.i64.wrap ((i : Int) + 1) = (i : Int) + 1 := by rw [IntKind.wrap_i64]; omega
    replace hb9 := Lib.hid hb9
    clear hx1 hx2 hx3 h89 h59 hclone hbytes hsig hpl hpe hsl hse hSL
    generalize hSG : sigG seed h i m = SG at *
    replace hSG := Lib.hid hSG
    go_wp2_with fail
    go_region_held3 (fun W' : World => W'.cell? ⟨g, 0, none⟩ = some (.slice A 32 c) ∧ W'.cell? ⟨g, 1, none⟩ = some (.int .i64 (h : Int)) ∧ W'.cell? ⟨g, 2, none⟩ = some (.int .i64 (i : Int)) ∧
        W'.cell? ⟨G, 0, none⟩ = some (.int .i64 (h : Int)) ∧ W'.cell? ⟨G, 1, none⟩ = some (.int .i64 (i : Int)) ∧ W'.cell? ⟨G, 2, none⟩ = some (.slice A8 35 c8) ∧ W'.cell? ⟨G, 3, none⟩ = some (.slice A5 h c5))
      (first | exact K.out _ hb11 | exact K3.out _ _ _ _ hb11 | exact K.out _ hb10 | (go_keep; done))
      (first
        | (go_at_call 81; refine (hby.out _ hb10).mono ?_; rintro e W11 ⟨v11, rfl, h11, hb11⟩
           obtain ⟨A11, c11, rfl, -, -⟩ := h11.sees.mk_
           replace h10 := h10.below hb11
           have hbs := hb10.size
           replace hb11 := bgo hb10 hb11
           have hz := Z.out W11 hb11
           have z0 : W11.cell? ⟨g + 1, 0, none⟩ = some (.slice none 0 0) := hz.cell 0
           have z1 : W11.cell? ⟨g + 1, 1, none⟩ = some (.int .i64 0) := hz.cell 1
           have z2 : W11.cell? ⟨g + 1, 2, none⟩ = some (.int .i64 0) := hz.cell 2
           have f0 := hz.frozen 0
           have f1 := hz.frozen 1
           have f2 := hz.frozen 2)
        | (go_at_call 80; refine hcl.out.mono ?_; rintro e W10 ⟨v10, rfl, h10, hb10⟩
           obtain ⟨A10, c10, rfl, -, -⟩ := h10.sees.mk_
           replace hb10 := (bdrew W9).trans hb10))
    all_goals
      have k10 : OwnB (((W11.setCell ⟨g + 1, 0, none⟩ (.slice A10 seed.length c10)).setCell ⟨g + 1, 1, none⟩ (.int .i64 (h : Int))).setCell ⟨g + 1, 2, none⟩ (.int .i64 ((i : Int) + 1))) W9.heap.size (.slice A10 seed.length c10) seed :=
        ownsRow_setCell_below (ownsRow_setCell_below (ownsRow_setCell_below h10 (by dsimp only; exact hlt1) _) (by dsimp only; exact hlt1) _) (by dsimp only; exact hlt1) _
      have k11 : OwnB (((W11.setCell ⟨g + 1, 0, none⟩ (.slice A10 seed.length c10)).setCell ⟨g + 1, 1, none⟩ (.int .i64 (h : Int))).setCell ⟨g + 1, 2, none⟩ (.int .i64 ((i : Int) + 1))) W10.heap.size (.slice A11 SG.length c11) SG :=
        ownsRow_setCell_below (ownsRow_setCell_below (ownsRow_setCell_below h11 (by dsimp only; omega) _) (by dsimp only; omega) _) (by dsimp only; omega) _
      have kz := ((hz.set 0 (.slice A10 seed.length c10)).set 1 (.int .i64 (h : Int))).set 2 (.int .i64 ((i : Int) + 1))
      simp only [List.set_cons_succ, List.set_cons_zero] at kz
      have hgw : w.heap.size ≤ g + 1 := by have := hg.out; omega
      have hend : Below w.heap.size w (((W11.setCell ⟨g + 1, 0, none⟩ (.slice A10 seed.length c10)).setCell ⟨g + 1, 1, none⟩ (.int .i64 (h : Int))).setCell ⟨g + 1, 2, none⟩ (.int .i64 ((i : Int) + 1))) :=
        (((bgo hb9.out hb11).setCell (p := ⟨g + 1, 0, none⟩) hgw _).setCell (p := ⟨g + 1, 1, none⟩) hgw _).setCell (p := ⟨g + 1, 2, none⟩) hgw _
      clear h10 h11 hz z0 z1 z2 f0 f1 f2 hb11 K K3 Z
      generalize ((W11.setCell ⟨g + 1, 0, none⟩ (.slice A10 seed.length c10)).setCell ⟨g + 1, 1, none⟩ (.int .i64 (h : Int))).setCell ⟨g + 1, 2, none⟩ (.int .i64 ((i : Int) + 1)) = W12 at *
      have z0 : W12.cell? ⟨g + 1, 0, none⟩ = some (.slice A10 seed.length c10) := kz.cell 0
      have z1 : W12.cell? ⟨g + 1, 1, none⟩ = some (.int .i64 (h : Int)) := kz.cell 1
      have z2 : W12.cell? ⟨g + 1, 2, none⟩ = some (.int .i64 ((i : Int) + 1)) := kz.cell 2
      go_wp2_with fail
      refine bodyPost_ret (v := .tuple #[.agg #[.slice A10 seed.length c10, .int .i64 (h : Int), .int .i64 ((i : Int) + 1)], .slice A11 SG.length c11, .int .i64 0]) (by simp [results, Tryz.results44, go_sem, z0, z1, z2]) rfl ?_
      exact ⟨_, _, rfl, k10.sees, by rw [hSG.out]; exact k11.sees, hend⟩
end
section
open Go.RowKit
set_option linter.unusedVariables false
attribute [local go_sem ↓] Go.wp_at_zero Go.wp_at_succ
set_option maxRecDepth 100000 in
set_option maxHeartbeats 4000000 in
theorem rsign_ok (B : Nat) (u u2 : Value) (seed m : Bs) (h i : Nat) (w : World) (hu : SeesB w B u seed) (hu2 : SeesB w B u2 m) (hB : B ≤ w.heap.size) (hl : seed.length = 32) (hh : h ≤ 6) (hi : i < 2 ^ h) (hm : m.length ≤ 65535) :
    Calls Tryz.prog 30 #[.agg #[u, .int .i64 (h : Int), .int .i64 (i : Int)], u2] w (SignOk seed h i m w) := by
  obtain ⟨A, c, rfl, -, -⟩ := hu.mk_
  obtain ⟨AA, cc, rfl, -, -⟩ := hu2.mk_
  have hvI := validI_mk seed h i hl hh (Nat.le_of_lt hi)
  have hp := wrap_pow h hh
  have m0 : IntKind.u64.wrap (h : Int) = (h : Int) := by rw [IntKind.wrap_u64]; omega
  have hp64 := pow_le64 h hh
  have hval := fun W (hW : SeesB W B (.slice A seed.length c) seed) => rsvalid_any B _ seed h i W hW
  rw [hvI] at hval
  have hlv := fun W (hW : SeesB W W.heap.size (.slice A seed.length c) seed) => rleaves_any W.heap.size _ seed h W hW (Nat.le_refl _) hl hh
  have hsg := fun W (v2 : Value) (d : Bs) (hd : d.length = 16) (hW : SeesB W W.heap.size (.slice A seed.length c) seed) (h2 : SeesB W W.heap.size v2 d) => rotsign_any W.heap.size _ v2 seed d i W hW h2 (Nat.le_refl _) hl hd (by omega)
  have hdg := fun W (v2 : Value) (p : Bs) (hp : p.length = 32) (hW : SeesB W W.heap.size v2 p) (h2 : SeesB W W.heap.size (.slice AA m.length cc) m) => rdigest_any W.heap.size v2 _ p m i W hW h2 (Nat.le_refl _) (by omega) (by omega) (by omega)
  rw [hl] at hu hval hlv hsg ⊢
  replace hu := Lib.hid hu
  replace hu2 := Lib.hid hu2
  replace hvI := Lib.hid hvI
  replace hval := Lib.hid hval
  replace hlv := Lib.hid hlv
  replace hsg := Lib.hid hsg
  replace hdg := Lib.hid hdg
  replace hl := Lib.hid hl
  have hkl := Lib.hid (keyG_len seed h)
  have hleaves := Lib.hid (leavesL_len seed (2 ^ h))
  have hsig : Hid ([UInt8.ofNat h] ++ putB 4 i ++ (signL seed i (digG (keyG seed h) i m)).flatten ++ (pathG (hashesG seed h) i).flatten = sigG seed h i m) := rfl
  have hkey : Hid (rootG ((leavesL seed (2 ^ h)).map leafH) = keyG seed h) := rfl
  have hpath : Hid (pathG ((leavesL seed (2 ^ h)).map leafH) i = pathG (hashesG seed h) i) := rfl
  have hel : Hid (∀ x ∈ leavesL seed (2 ^ h), x.length = 16) := leavesL_el seed _
  have hpl := Lib.hid (pathG_len h _ i (hashesG_len seed h))
  have hpe : Hid (∀ x ∈ pathG (hashesG seed h) i, x.length = 32) := pathG_el _ _ _ (Nat.le_refl _) (hashesG_el seed h)
  generalize leavesL seed (2 ^ h) = LV at *
  generalize hN : 2 ^ h = N at *
  have hi2 : ((i : Int) == (N : Int)) = false := by rw [beq_eq_false_iff_ne]; omega
  replace hN := Lib.hid hN
  go_enter Tryz.func30, Tryz.ntmps30
  go_wp2_with fail
  have hb0 : Below w.heap.size w ((w.alloc (.cells #[.slice A 32 c, .int .i64 (h : Int), .int .i64 (i : Int)] 25)).alloc (.cells #[.slice none 0 0, .int .i64 0, .int .i64 0] 25)) := bgo (balloc w _) (balloc _ _)
  have hx1 := Box.below (Box.new w 25 [.slice A 32 c, .int .i64 (h : Int), .int .i64 (i : Int)]) (balloc _ (.cells #[.slice none 0 0, .int .i64 0, .int .i64 0] 25))
  have hx2 := Box.new (w.alloc (.cells #[.slice A 32 c, .int .i64 (h : Int), .int .i64 (i : Int)] 25)) 25 [.slice none 0 0, .int .i64 0, .int .i64 0]
  have hz : (w.alloc (.cells #[.slice A 32 c, .int .i64 (h : Int), .int .i64 (i : Int)] 25)).heap.size = w.heap.size + 1 := World.size_alloc _ _
  rw [hz] at hx2
  change Box ((w.alloc (.cells #[.slice A 32 c, .int .i64 (h : Int), .int .i64 (i : Int)] 25)).alloc (.cells #[.slice none 0 0, .int .i64 0, .int .i64 0] 25)) _ _ _ at hx1 hx2
  generalize (w.alloc (.cells #[.slice A 32 c, .int .i64 (h : Int), .int .i64 (i : Int)] 25)).alloc (.cells #[.slice none 0 0, .int .i64 0, .int .i64 0] 25) = W0 at *
  clear hz
  obtain ⟨g, hg⟩ : ∃ g, g = w.heap.size := ⟨_, rfl⟩
  rw [← hg] at hx1 hx2 ⊢
  replace hg := Lib.hid hg
  replace hb0 := Lib.hid hb0
  refine (hval.out W0 (hu.out.below (hb0.out.mono hB))).mono ?_
  rintro e W1 ⟨rfl, hb1⟩
  replace hx1 := hx1.below hb1
  replace hx2 := hx2.below hb1
  replace hb1 := Lib.hid (bgo hb0.out hb1)
  have c0 : W1.cell? ⟨g, 0, none⟩ = some (.slice A 32 c) := hx1.cell 0
  have c1 : W1.cell? ⟨g, 1, none⟩ = some (.int .i64 (h : Int)) := hx1.cell 1
  have c2 : W1.cell? ⟨g, 2, none⟩ = some (.int .i64 (i : Int)) := hx1.cell 2
  clear hval hb0
  replace hx1 := Lib.hid hx1
  replace hx2 := Lib.hid hx2
  dsimp only
  go_wp2_with fail
  have hx1q : Box W1 g 25 _ := hx1.out
  have hx2q : Box W1 (g + 1) 25 _ := hx2.out
  have hb1q := hb1.out
  clear hx1 hx2 hb1 c0 c1 c2
  refine (hlv.out W1 (seesB_of (hu.out.more hB) (Nat.le_refl _) hb1q)).mono ?_
  rintro e W2 ⟨v2, rfl, h2, hb2⟩
  have hrt := rroot_top LV W2.heap.size v2 W2 h2.sees (Nat.le_refl _) (by rw [hleaves.out]; omega) (fun x hx => by rw [hel.out x hx]; omega)
  unfold RootPost at hrt
  rw [hkey.out] at hrt
  obtain ⟨A2, c2', rfl⟩ := h2.shape
  rw [hleaves.out] at hrt h2 ⊢
  replace hx1 := hx1q.below hb2
  replace hx2 := hx2q.below hb2
  replace hb2 := bgo hb1q hb2
  replace h2 := Lib.hid h2
  replace hrt := Lib.hid hrt
  clear hlv hx1q hx2q hb1q
  dsimp only
  go_wp2_with fail
  refine hrt.out.mono ?_
  rintro e W3 ⟨v3, rfl, h3, hb3⟩
  replace h2 := h2.out.below hb3
  replace hx1 := hx1.below hb3
  replace hx2 := hx2.below hb3
  replace hb3 := bgo hb2 hb3
  clear hb2 hrt
  have c0 : W3.cell? ⟨g, 0, none⟩ = some (.slice A 32 c) := hx1.cell 0
  have c1 : W3.cell? ⟨g, 1, none⟩ = some (.int .i64 (h : Int)) := hx1.cell 1
  have c2 : W3.cell? ⟨g, 2, none⟩ = some (.int .i64 (i : Int)) := hx1.cell 2
  obtain ⟨A3, c3, rfl, -, -⟩ := h3.sees.mk_
  rw [hkl.out] at h3 ⊢
  have hgl := hx1.lt
  have hgl2 := hx2.lt
  replace hx1 := Lib.hid hx1
  replace hx2 := Lib.hid hx2
  replace hb3 := Lib.hid hb3
  replace h3 := Lib.hid h3
  replace h2 := Lib.hid h2
  dsimp only
  go_wp2_with fail
  have hpt := rpath_top LV i W3.heap.size (.slice A2 N c2') W3 h2.out.sees (by rw [hleaves.out]; exact hi) (Nat.le_refl _) (by rw [hleaves.out]; omega) (fun x hx => by rw [hel.out x hx]; omega)
  unfold PathPost at hpt
  rw [hpath.out] at hpt
  generalize pathG (hashesG seed h) i = PT at *
  refine hpt.mono ?_
  rintro e W6 ⟨v5, rfl, h56, hb5⟩
  obtain ⟨A5, c5, rfl⟩ := h56.shape
  rw [hpl.out] at h56 ⊢
  have hx16 := hx1.out.below hb5
  have hx26 := hx2.out.below hb5
  have h36 := (h3.out.below hb5).sees
  have hb6 := bgo hb3.out hb5
  clear hpt h2 h3 hx1 hx2 hb3 hb5 c0 c1 c2 hgl hgl2
  have hg0 := Lib.hid (hdg.out W6.drew (.slice A3 32 c3) (keyG seed h) hkl.out h36 (seesB_of (hu2.out.more hB) (Nat.le_refl _) (hb6.drew)))
  have hd16 : Hid ((digG (keyG seed h) i m).length = 16) := short_len _
  generalize digG (keyG seed h) i m = DG at *
  have hsg2 : Hid (∀ W v2, Below W6.heap.size W6 W → SeesB W W.heap.size v2 DG → Calls Tryz.prog 64 #[.slice A 32 c, .int .i64 (i : Int), v2] W (OtSignPost (signL seed i DG) W)) :=
    fun W v2 hbW h2 => hsg.out W v2 DG hd16.out (seesB_of (hu.out.more hB) (Nat.le_refl _) (bgo hb6 hbW)) h2
  have K : Hid (∀ W : World, Below W6.heap.size W6 W → W.cell? ⟨g, 0, none⟩ = some (.slice A 32 c) ∧ W.cell? ⟨g, 1, none⟩ = some (.int .i64 (h : Int)) ∧ W.cell? ⟨g, 2, none⟩ = some (.int .i64 (i : Int))) :=
    fun W hW => ⟨(hW.cell (p := ⟨g, 0, none⟩) hx16.lt).trans (hx16.cell 0), (hW.cell (p := ⟨g, 1, none⟩) hx16.lt).trans (hx16.cell 1), (hW.cell (p := ⟨g, 2, none⟩) hx16.lt).trans (hx16.cell 2)⟩
  have y0 : W6.cell? ⟨g, 0, none⟩ = some (.slice A 32 c) := hx16.cell 0
  have y2 : W6.cell? ⟨g, 2, none⟩ = some (.int .i64 (i : Int)) := hx16.cell 2
  replace hx26 := Lib.hid hx26
  replace h56 := Lib.hid h56
  replace hb6 := Lib.hid hb6
  clear hdg hsg h36 hx16
  dsimp only
  go_wp2_with fail
  go_region_held3 (fun W' : World => W'.cell? ⟨g, 0, none⟩ = some (.slice A 32 c) ∧ W'.cell? ⟨g, 1, none⟩ = some (.int .i64 (h : Int)) ∧ W'.cell? ⟨g, 2, none⟩ = some (.int .i64 (i : Int)))
    (first | exact K.out _ hb8 | exact K.out _ hb7 | exact K.out _ (bdrew W6) | exact K.out _ (Below.refl _ _) | (go_keep; done))
    (first
      | (go_at_call 64; refine (hsg2.out _ _ hb7 h7).mono ?_; rintro e W8 ⟨v8, rfl, h8, hb8⟩
         obtain ⟨A8, c8, rfl⟩ := h8.shape
         replace hb8 := bgo hb7 hb8)
      | (go_at_call 65; refine hg0.out.mono ?_; rintro e W7 ⟨v7, rfl, h7, hb7, -⟩
         obtain ⟨A7, c7, rfl, -, -⟩ := h7.mk_
         replace hb7 := (bdrew W6).trans hb7))
  all_goals
    have hsl := signL_len seed i DG
    have hse := signL_el seed i DG
    have h58 := h56.out.below hb8
    have hx28 := hx26.out.below hb8
    replace K : Hid (∀ W : World, Below W8.heap.size W8 W → W.cell? ⟨g, 0, none⟩ = some (.slice A 32 c) ∧ W.cell? ⟨g, 1, none⟩ = some (.int .i64 (h : Int)) ∧ W.cell? ⟨g, 2, none⟩ = some (.int .i64 (i : Int))) := fun W hW => K.out W (bgo hb8 hW)
    replace hb8 := bgo hb6.out hb8
    obtain ⟨x0, x1, x2⟩ := K.out W8 (Below.refl _ _)
    generalize hSL : signL seed i DG = SL at *
    replace hSL := Lib.hid hSL
    rw [hsl] at h8 ⊢
    replace hsl := Lib.hid hsl
    replace hse := Lib.hid hse
    replace h8 := Lib.hid h8
    replace h58 := Lib.hid h58
    replace hx28 := Lib.hid hx28
    replace hb8 := Lib.hid hb8
    clear hb7 h7 hg0 hsg2 h56 hx26 hb6 y0 y2
    have m4 : IntKind.u64.wrap (i : Int) = (i : Int) := by rw [IntKind.wrap_u64]; omega
    have m5 : IntKind.u8.wrap (h : Int) = (h : Int) := by rw [IntKind.wrap_u8]; omega
    have hxb : Hid (((UInt8.ofNat h).toNat : Int) = (h : Int)) := by show _ = _; simp; omega
    have hput := Lib.hid (rput4_any i (by omega))
    have hf1 := flat_len 16 SL hse.out
    have hf2 := flat_len 32 PT hpe.out
    rw [hsl.out] at hf1
    rw [hpl.out] at hf2
    have hj1 : Hid (∀ W : World, Below W8.heap.size W8 W → Calls Tryz.prog 14 #[.slice A8 35 c8] W (Gives SL.flatten W)) := fun W hW => rjoin_any W8.heap.size _ SL W (h8.out.sees.below hW) hW.size (by omega)
    have hj2 : Hid (∀ W : World, Below W8.heap.size W8 W → Calls Tryz.prog 14 #[.slice A5 h c5] W (Gives PT.flatten W)) := fun W hW => rjoin_any W8.heap.size _ PT W (h58.out.sees.below hW) hW.size (by omega)
    have hl4 := Lib.hid (putB_len 4 i)
    have hfl : Hid ([[UInt8.ofNat h], putB 4 i, SL.flatten, PT.flatten].flatten = sigG seed h i m) := by rw [← hsig.out]; show _ = _; simp
    have hfll : Hid ([[UInt8.ofNat h], putB 4 i, SL.flatten, PT.flatten].flatten.length ≤ 1099511627776) := by show _ ≤ _; rw [hfl.out, sigG_len]; omega
    generalize hSG : sigG seed h i m = SG at *
    replace hSG := Lib.hid hSG
    generalize SL.flatten = L1 at *
    generalize PT.flatten = L2 at *
    clear hf1 hf2 hse hpe hsl hSL
    go_upto_region 11 with (fail)
    go_cut [14] (fun v W => ∃ A c, v = .slice A SG.length c ∧ Hid (OwnB W W8.heap.size v SG) ∧ Below W8.heap.size W8 W)
    case first =>
      go_region_held3 (fun W' : World => W'.cell? ⟨g, 0, none⟩ = some (.slice A 32 c) ∧ W'.cell? ⟨g, 1, none⟩ = some (.int .i64 (h : Int)) ∧ W'.cell? ⟨g, 2, none⟩ = some (.int .i64 (i : Int)))
        (first | exact K.out _ hb12 | (refine K.out _ ?_; (repeat (first | exact Below.refl _ _ | (refine bgo ?_ (balloc _ _)) | (refine bgo ?_ (bdrew _)) | (refine bgo ?_ (by assumption)))); done) | (go_keep; done))
        (first
          | (go_at_call_of 14 (A8); refine (hj1.out _ ?_).mono ?_
             focus ((repeat (first | exact Below.refl _ _ | (refine bgo ?_ (balloc _ _)) | (refine bgo ?_ (bdrew _)) | (refine bgo ?_ (by assumption)))); done)
             rintro e W10 ⟨v10, rfl, h10, hb10⟩
             obtain ⟨A10, c10, rfl, -, -⟩ := h10.sees.mk_)
          | (go_at_call_of 14 (A5); refine (hj2.out _ ?_).mono ?_
             focus ((repeat (first | exact Below.refl _ _ | (refine bgo ?_ (balloc _ _)) | (refine bgo ?_ (bdrew _)) | (refine bgo ?_ (by assumption)))); done)
             rintro e W11 ⟨v11, rfl, h11, hb11⟩
             obtain ⟨A11, c11, rfl, -, -⟩ := h11.sees.mk_)
          | (go_at_call 15; refine (hput.out _).mono ?_; rintro e W9 ⟨v9, rfl, h9, hb9⟩; obtain ⟨A9, c9, rfl, -, -⟩ := h9.sees.mk_)
          | (go_at_call 14; refine (rjoin_lit (vs := [_, _, _, _]) [[UInt8.ofNat h], putB 4 i, L1, L2] W8 _ _ ?_ ?_ ⟨?_, ?_, ?_, ?_, trivial⟩ (by simp) hfll.out).mono ?_
             focus (first | rfl | (simp; done))
             focus ((repeat (first | exact Below.refl _ _ | (refine bgo ?_ (balloc _ _)) | (refine bgo ?_ (bdrew _)) | (refine bgo ?_ (by assumption)))); done)
             focus (first | (refine seesB_of (one_byte W8 _ _ hxb.out).sees (Nat.le_refl _) ?_; (repeat (first | exact Below.refl _ _ | (refine bgo ?_ (balloc _ _)) | (refine bgo ?_ (bdrew _)) | (refine bgo ?_ (by assumption)))); done) | (refine seesB_of (one_byte W9 _ _ hxb.out).sees (Nat.le_refl _) ?_; (repeat (first | exact Below.refl _ _ | (refine bgo ?_ (balloc _ _)) | (refine bgo ?_ (bdrew _)) | (refine bgo ?_ (by assumption)))); done) | (refine seesB_of (one_byte W10 _ _ hxb.out).sees (Nat.le_refl _) ?_; (repeat (first | exact Below.refl _ _ | (refine bgo ?_ (balloc _ _)) | (refine bgo ?_ (bdrew _)) | (refine bgo ?_ (by assumption)))); done) | (refine seesB_of (one_byte W11 _ _ hxb.out).sees (Nat.le_refl _) ?_; (repeat (first | exact Below.refl _ _ | (refine bgo ?_ (balloc _ _)) | (refine bgo ?_ (bdrew _)) | (refine bgo ?_ (by assumption)))); done))
             focus (refine seesB_of h9.sees (Nat.le_refl _) ?_; (repeat (first | exact Below.refl _ _ | (refine bgo ?_ (balloc _ _)) | (refine bgo ?_ (bdrew _)) | (refine bgo ?_ (by assumption)))); done)
             focus (refine seesB_of h10.sees (Nat.le_refl _) ?_; (repeat (first | exact Below.refl _ _ | (refine bgo ?_ (balloc _ _)) | (refine bgo ?_ (bdrew _)) | (refine bgo ?_ (by assumption)))); done)
             focus (refine seesB_of h11.sees (Nat.le_refl _) ?_; (repeat (first | exact Below.refl _ _ | (refine bgo ?_ (balloc _ _)) | (refine bgo ?_ (bdrew _)) | (refine bgo ?_ (by assumption)))); done)
             rintro e W12 ⟨v12, rfl, h12, hb12⟩
             rw [hfl.out] at h12
             obtain ⟨A12, c12, rfl, -, -⟩ := h12.sees.mk_))
      all_goals
        go_wp2_with fail
        go_meet
        exact ⟨A12, c12, rfl, h12, hb12⟩
    case rest =>
      obtain ⟨A12, c12, rfl, h12, hb12⟩ := hcut
      replace h12 := h12.out
      obtain ⟨W12, rfl⟩ : ∃ W : World, W = wc := ⟨_, rfl⟩
      have hlt8 := Lib.hid hx28.out.lt
      have hx2 := hx28.out.below hb12
      replace hb8 := Lib.hid (bgo hb8.out hb12)
      replace K : Hid (∀ W : World, Below W12.heap.size W12 W → W.cell? ⟨g, 0, none⟩ = some (.slice A 32 c) ∧ W.cell? ⟨g, 1, none⟩ = some (.int .i64 (h : Int)) ∧ W.cell? ⟨g, 2, none⟩ = some (.int .i64 (i : Int))) := fun W hW => K.out W (bgo hb12 hW)
      have K3 : Hid (∀ (W : World) (a b d : Value), Below W12.heap.size W12 W → (((W.setCell ⟨g + 1, 0, none⟩ a).setCell ⟨g + 1, 1, none⟩ b).setCell ⟨g + 1, 2, none⟩ d).cell? ⟨g, 0, none⟩ = some (.slice A 32 c) ∧ (((W.setCell ⟨g + 1, 0, none⟩ a).setCell ⟨g + 1, 1, none⟩ b).setCell ⟨g + 1, 2, none⟩ d).cell? ⟨g, 1, none⟩ = some (.int .i64 (h : Int)) ∧ (((W.setCell ⟨g + 1, 0, none⟩ a).setCell ⟨g + 1, 1, none⟩ b).setCell ⟨g + 1, 2, none⟩ d).cell? ⟨g, 2, none⟩ = some (.int .i64 (i : Int))) :=
        fun W a b d hW => by
          obtain ⟨k0, k1, k2⟩ := K.out W hW
          have e1 : ∀ o, (⟨g, o, none⟩ : Addr).block ≠ g + 1 := fun o => by dsimp only; omega
          exact ⟨(cell_set3 W _ _ (e1 0) a b d).trans k0, (cell_set3 W _ _ (e1 1) a b d).trans k1, (cell_set3 W _ _ (e1 2) a b d).trans k2⟩
      obtain ⟨y0, y1, y2⟩ := K.out W12 (Below.refl _ _)
      have Z : Hid (∀ W : World, Below W12.heap.size W12 W → Box W (g + 1) 25 [.slice none 0 0, .int .i64 0, .int .i64 0]) := fun W hW => hx2.below hW
      have hlt1 := hx2.lt
      have hfs : Hid ([seed].flatten = seed) := by show _ = _; simp
      have hjs := rjoin_any _ _ [seed] (W12.alloc (.cells #[.slice A 32 c] 23)).drew (SeesL.below (seesL_lit W12 23 (vs := [.slice A 32 c]) (ls := [seed]) ⟨seesB_of (hu.out.more hB) (Nat.le_refl _) hb8.out, trivial⟩ (by simp [maxLen])) (bdrew _)) (Nat.le_refl _) (by rw [hfs.out, hl.out]; omega)
      rw [hfs.out] at hjs
      replace hjs := Lib.hid hjs
      have m6 : IntKind.i64.wrap ((i : Int) + 1) = (i : Int) + 1 := by rw [IntKind.wrap_i64]; omega
      replace h12 := Lib.hid h12
      clear hb12 hx28 hx2 hj1 hj2 hput h8 h58 hfl hfll
      go_wp2_with fail
      go_region_held3 (fun W' : World => W'.cell? ⟨g, 0, none⟩ = some (.slice A 32 c) ∧ W'.cell? ⟨g, 1, none⟩ = some (.int .i64 (h : Int)) ∧ W'.cell? ⟨g, 2, none⟩ = some (.int .i64 (i : Int)))
        (first | exact K.out _ hb13 | exact K3.out _ _ _ _ hb13 | (refine K.out _ ?_; (repeat (first | exact Below.refl _ _ | (refine bgo ?_ (balloc _ _)) | (refine bgo ?_ (bdrew _)) | (refine bgo ?_ (by assumption)))); done) | (go_keep; done))
        (first
          | (go_at_call 14; refine hjs.out.mono ?_; rintro e W13 ⟨v13, rfl, h13, hb13⟩
             obtain ⟨A13, c13, rfl, -, -⟩ := h13.sees.mk_
             replace hb13 := bgo (balloc W12 (.cells #[.slice A 32 c] 23)) ((bdrew _).trans hb13)
             have h12' := h12.out.below hb13
             have hz := Z.out W13 hb13
             have z0 : W13.cell? ⟨g + 1, 0, none⟩ = some (.slice none 0 0) := hz.cell 0
             have z1 : W13.cell? ⟨g + 1, 1, none⟩ = some (.int .i64 0) := hz.cell 1
             have z2 : W13.cell? ⟨g + 1, 2, none⟩ = some (.int .i64 0) := hz.cell 2
             have f0 := hz.frozen 0
             have f1 := hz.frozen 1
             have f2 := hz.frozen 2))
      all_goals
        have k10 : OwnB (((W13.setCell ⟨g + 1, 0, none⟩ (.slice A13 seed.length c13)).setCell ⟨g + 1, 1, none⟩ (.int .i64 (h : Int))).setCell ⟨g + 1, 2, none⟩ (.int .i64 ((i : Int) + 1))) W12.heap.size (.slice A13 seed.length c13) seed :=
          ownsRow_setCell_below (ownsRow_setCell_below (ownsRow_setCell_below (OwnB.mono h13 (balloc W12 _).size) (by dsimp only; exact hlt1) _) (by dsimp only; exact hlt1) _) (by dsimp only; exact hlt1) _
        have k11 : OwnB (((W13.setCell ⟨g + 1, 0, none⟩ (.slice A13 seed.length c13)).setCell ⟨g + 1, 1, none⟩ (.int .i64 (h : Int))).setCell ⟨g + 1, 2, none⟩ (.int .i64 ((i : Int) + 1))) W8.heap.size (.slice A12 SG.length c12) SG :=
          ownsRow_setCell_below (ownsRow_setCell_below (ownsRow_setCell_below h12' (by dsimp only; exact hlt8.out) _) (by dsimp only; exact hlt8.out) _) (by dsimp only; exact hlt8.out) _
        have kz := ((hz.set 0 (.slice A13 seed.length c13)).set 1 (.int .i64 (h : Int))).set 2 (.int .i64 ((i : Int) + 1))
        simp only [List.set_cons_succ, List.set_cons_zero] at kz
        have hgw : w.heap.size ≤ g + 1 := by have := hg.out; omega
        have hend : Below w.heap.size w (((W13.setCell ⟨g + 1, 0, none⟩ (.slice A13 seed.length c13)).setCell ⟨g + 1, 1, none⟩ (.int .i64 (h : Int))).setCell ⟨g + 1, 2, none⟩ (.int .i64 ((i : Int) + 1))) :=
          (((bgo hb8.out hb13).setCell (p := ⟨g + 1, 0, none⟩) hgw _).setCell (p := ⟨g + 1, 1, none⟩) hgw _).setCell (p := ⟨g + 1, 2, none⟩) hgw _
        clear h12' h13 hz z0 z1 z2 f0 f1 f2 hb13 K K3 Z
        generalize ((W13.setCell ⟨g + 1, 0, none⟩ (.slice A13 seed.length c13)).setCell ⟨g + 1, 1, none⟩ (.int .i64 (h : Int))).setCell ⟨g + 1, 2, none⟩ (.int .i64 ((i : Int) + 1)) = W14 at *
        have z0 : W14.cell? ⟨g + 1, 0, none⟩ = some (.slice A13 seed.length c13) := kz.cell 0
        have z1 : W14.cell? ⟨g + 1, 1, none⟩ = some (.int .i64 (h : Int)) := kz.cell 1
        have z2 : W14.cell? ⟨g + 1, 2, none⟩ = some (.int .i64 ((i : Int) + 1)) := kz.cell 2
        go_wp2_with fail
        refine bodyPost_ret (v := .tuple #[.agg #[.slice A13 seed.length c13, .int .i64 (h : Int), .int .i64 ((i : Int) + 1)], .slice A12 SG.length c12, .int .i64 0]) (by simp [results, Tryz.results30, go_sem, z0, z1, z2]) rfl ?_
        exact ⟨_, _, rfl, k10.sees, by rw [hSG.out]; exact k11.sees, hend⟩
end
section
open Go.RowKit
set_option linter.unusedVariables false
attribute [local go_sem ↓] Go.wp_at_zero Go.wp_at_succ
set_option maxRecDepth 100000 in
theorem sign_bad3 (B : Nat) (u u2 : Value) (seed : Bs) (h n : Int) (w : World) (hu : SeesB w B u seed) (hB : B ≤ w.heap.size) (hv : validI seed h n = false) :
    Calls Tryz.prog 44 #[.agg #[u, .int .i64 h, .int .i64 n], u2] w (SignBad 3 w) := by
  obtain ⟨A, c, rfl, -, -⟩ := hu.mk_
  have hval := fun W (hW : SeesB W B (.slice A seed.length c) seed) => svalid_any B _ seed h n W hW
  rw [hv] at hval
  replace hval := Lib.hid hval
  replace hv := Lib.hid hv
  replace hu := Lib.hid hu
  go_enter Tryz.func44, Tryz.ntmps44
  go_wp2_with fail
  have hb0 : Below w.heap.size w ((w.alloc (.cells #[.slice A seed.length c, .int .i64 h, .int .i64 n] 25)).alloc (.cells #[.slice none 0 0, .int .i64 0, .int .i64 0] 25)) := bgo (balloc w _) (balloc _ _)
  have hx1 := Box.below (Box.new w 25 [.slice A seed.length c, .int .i64 h, .int .i64 n]) (balloc _ (.cells #[.slice none 0 0, .int .i64 0, .int .i64 0] 25))
  have hx2 := Box.new (w.alloc (.cells #[.slice A seed.length c, .int .i64 h, .int .i64 n] 25)) 25 [.slice none 0 0, .int .i64 0, .int .i64 0]
  have hz : (w.alloc (.cells #[.slice A seed.length c, .int .i64 h, .int .i64 n] 25)).heap.size = w.heap.size + 1 := World.size_alloc _ _
  rw [hz] at hx2
  change Box ((w.alloc (.cells #[.slice A seed.length c, .int .i64 h, .int .i64 n] 25)).alloc (.cells #[.slice none 0 0, .int .i64 0, .int .i64 0] 25)) _ _ _ at hx1 hx2
  generalize (w.alloc (.cells #[.slice A seed.length c, .int .i64 h, .int .i64 n] 25)).alloc (.cells #[.slice none 0 0, .int .i64 0, .int .i64 0] 25) = W0 at *
  clear hz
  obtain ⟨g, hg⟩ : ∃ g, g = w.heap.size := ⟨_, rfl⟩
  rw [← hg] at hx1 hx2 ⊢
  replace hg := Lib.hid hg
  replace hb0 := Lib.hid hb0
  refine (hval.out W0 (hu.out.below (hb0.out.mono hB))).mono ?_
  rintro e W1 ⟨rfl, hb1⟩
  replace hx1 := hx1.below hb1
  replace hx2 := hx2.below hb1
  replace hb1 := bgo hb0.out hb1
  have z0 : W1.cell? ⟨g + 1, 0, none⟩ = some (.slice none 0 0) := hx2.cell 0
  have z1 : W1.cell? ⟨g + 1, 1, none⟩ = some (.int .i64 0) := hx2.cell 1
  have z2 : W1.cell? ⟨g + 1, 2, none⟩ = some (.int .i64 0) := hx2.cell 2
  have f0 := hx2.frozen 0
  have f1 := hx2.frozen 1
  have f2 := hx2.frozen 2
  have kz := ((hx2.set 0 (.slice none 0 0)).set 1 (.int .i64 0)).set 2 (.int .i64 0)
  simp only [List.set_cons_succ, List.set_cons_zero] at kz
  have hgw : w.heap.size ≤ g + 1 := by have := hg.out; omega
  have hlt := hx2.lt
  have hend : Below w.heap.size w (((W1.setCell ⟨g + 1, 0, none⟩ (.slice none 0 0)).setCell ⟨g + 1, 1, none⟩ (.int .i64 0)).setCell ⟨g + 1, 2, none⟩ (.int .i64 0)) :=
    ((hb1.setCell (p := ⟨g + 1, 0, none⟩) hgw _).setCell (p := ⟨g + 1, 1, none⟩) hgw _).setCell (p := ⟨g + 1, 2, none⟩) hgw _
  replace kz := Lib.hid kz
  replace hend := Lib.hid hend
  clear hx1 hx2 hb1 hval hb0
  dsimp only
  go_wp2_with fail
  have kz2 := kz.out
  have hend2 := hend.out
  clear kz hend z0 z1 z2 f0 f1 f2
  generalize ((W1.setCell ⟨g + 1, 0, none⟩ (.slice none 0 0)).setCell ⟨g + 1, 1, none⟩ (.int .i64 0)).setCell ⟨g + 1, 2, none⟩ (.int .i64 0) = W2 at *
  have z0 : W2.cell? ⟨g + 1, 0, none⟩ = some (.slice none 0 0) := kz2.cell 0
  have z1 : W2.cell? ⟨g + 1, 1, none⟩ = some (.int .i64 0) := kz2.cell 1
  have z2 : W2.cell? ⟨g + 1, 2, none⟩ = some (.int .i64 0) := kz2.cell 2
  refine bodyPost_ret (v := .tuple #[.agg #[.slice none 0 0, .int .i64 0, .int .i64 0], .slice none 0 0, .int .i64 3]) (by simp [results, Tryz.results44, go_sem, z0, z1, z2]) rfl ?_
  exact ⟨rfl, hend2⟩
set_option maxRecDepth 100000 in
theorem sign_bad7 (B : Nat) (u u2 : Value) (seed : Bs) (k : Nat) (w : World) (hu : SeesB w B u seed) (hB : B ≤ w.heap.size) (hl : seed.length = 32) (hk : k ≤ 6) :
    Calls Tryz.prog 44 #[.agg #[u, .int .i64 (k : Int), .int .i64 ((2 ^ k : Nat) : Int)], u2] w (SignBad 7 w) := by
  have hv := validI_mk seed k (2 ^ k) hl hk (Nat.le_refl _)
  clear hl
  have hp := wrap_pow k hk
  have hp64 := pow_le64 k hk
  have m0 : IntKind.u64.wrap (k : Int) = (k : Int) := by rw [IntKind.wrap_u64]; omega
  generalize 2 ^ k = N at *
  obtain ⟨A, c, rfl, -, -⟩ := hu.mk_
  have hval := fun W (hW : SeesB W B (.slice A seed.length c) seed) => svalid_any B _ seed k N W hW
  rw [hv] at hval
  replace hval := Lib.hid hval
  replace hv := Lib.hid hv
  replace hu := Lib.hid hu
  go_enter Tryz.func44, Tryz.ntmps44
  go_wp2_with fail
  have hb0 : Below w.heap.size w ((w.alloc (.cells #[.slice A seed.length c, .int .i64 (k : Int), .int .i64 (N : Int)] 25)).alloc (.cells #[.slice none 0 0, .int .i64 0, .int .i64 0] 25)) := bgo (balloc w _) (balloc _ _)
  have hx1 := Box.below (Box.new w 25 [.slice A seed.length c, .int .i64 (k : Int), .int .i64 (N : Int)]) (balloc _ (.cells #[.slice none 0 0, .int .i64 0, .int .i64 0] 25))
  have hx2 := Box.new (w.alloc (.cells #[.slice A seed.length c, .int .i64 (k : Int), .int .i64 (N : Int)] 25)) 25 [.slice none 0 0, .int .i64 0, .int .i64 0]
  have hz : (w.alloc (.cells #[.slice A seed.length c, .int .i64 (k : Int), .int .i64 (N : Int)] 25)).heap.size = w.heap.size + 1 := World.size_alloc _ _
  rw [hz] at hx2
  change Box ((w.alloc (.cells #[.slice A seed.length c, .int .i64 (k : Int), .int .i64 (N : Int)] 25)).alloc (.cells #[.slice none 0 0, .int .i64 0, .int .i64 0] 25)) _ _ _ at hx1 hx2
  generalize (w.alloc (.cells #[.slice A seed.length c, .int .i64 (k : Int), .int .i64 (N : Int)] 25)).alloc (.cells #[.slice none 0 0, .int .i64 0, .int .i64 0] 25) = W0 at *
  clear hz
  obtain ⟨g, hg⟩ : ∃ g, g = w.heap.size := ⟨_, rfl⟩
  rw [← hg] at hx1 hx2 ⊢
  replace hg := Lib.hid hg
  replace hb0 := Lib.hid hb0
  refine (hval.out W0 (hu.out.below (hb0.out.mono hB))).mono ?_
  rintro e W1 ⟨rfl, hb1⟩
  replace hx1 := hx1.below hb1
  replace hx2 := hx2.below hb1
  replace hb1 := bgo hb0.out hb1
  have c1 : W1.cell? ⟨g, 1, none⟩ = some (.int .i64 (k : Int)) := hx1.cell 1
  have c2 : W1.cell? ⟨g, 2, none⟩ = some (.int .i64 (N : Int)) := hx1.cell 2
  clear hb0 hval
  replace hx1 := Lib.hid hx1
  replace hx2 := Lib.hid hx2
  replace hb1 := Lib.hid hb1
  dsimp only
  go_wp2_with fail
  go_quiet (fail)
  have hx2q : Box (W1.drewN nq) (g + 1) 25 _ := hx2.out
  have hb1q := below_drewN hb1.out nq
  clear c1 c2 hx1 hx2 hb1
  generalize W1.drewN nq = W1 at *
  have hx2 := hx2q
  have hb1 := hb1q
  clear hx2q hb1q
  have z0 : W1.cell? ⟨g + 1, 0, none⟩ = some (.slice none 0 0) := hx2.cell 0
  have z1 : W1.cell? ⟨g + 1, 1, none⟩ = some (.int .i64 0) := hx2.cell 1
  have z2 : W1.cell? ⟨g + 1, 2, none⟩ = some (.int .i64 0) := hx2.cell 2
  have f0 := hx2.frozen 0
  have f1 := hx2.frozen 1
  have f2 := hx2.frozen 2
  have kz := ((hx2.set 0 (.slice none 0 0)).set 1 (.int .i64 0)).set 2 (.int .i64 0)
  simp only [List.set_cons_succ, List.set_cons_zero] at kz
  have hgw : w.heap.size ≤ g + 1 := by have := hg.out; omega
  have hlt := hx2.lt
  have hend : Below w.heap.size w (((W1.setCell ⟨g + 1, 0, none⟩ (.slice none 0 0)).setCell ⟨g + 1, 1, none⟩ (.int .i64 0)).setCell ⟨g + 1, 2, none⟩ (.int .i64 0)) :=
    ((hb1.setCell (p := ⟨g + 1, 0, none⟩) hgw _).setCell (p := ⟨g + 1, 1, none⟩) hgw _).setCell (p := ⟨g + 1, 2, none⟩) hgw _
  replace kz := Lib.hid kz
  replace hend := Lib.hid hend
  clear hx2 hb1
  go_wp2_with fail
  have kz2 := kz.out
  have hend2 := hend.out
  clear kz hend z0 z1 z2 f0 f1 f2
  generalize ((W1.setCell ⟨g + 1, 0, none⟩ (.slice none 0 0)).setCell ⟨g + 1, 1, none⟩ (.int .i64 0)).setCell ⟨g + 1, 2, none⟩ (.int .i64 0) = W2 at *
  have z0 : W2.cell? ⟨g + 1, 0, none⟩ = some (.slice none 0 0) := kz2.cell 0
  have z1 : W2.cell? ⟨g + 1, 1, none⟩ = some (.int .i64 0) := kz2.cell 1
  have z2 : W2.cell? ⟨g + 1, 2, none⟩ = some (.int .i64 0) := kz2.cell 2
  refine bodyPost_ret (v := .tuple #[.agg #[.slice none 0 0, .int .i64 0, .int .i64 0], .slice none 0 0, .int .i64 7]) (by simp [results, Tryz.results44, go_sem, z0, z1, z2]) rfl ?_
  exact ⟨rfl, hend2⟩
set_option maxRecDepth 100000 in
theorem rsign_bad3 (B : Nat) (u u2 : Value) (seed : Bs) (h n : Int) (w : World) (hu : SeesB w B u seed) (hB : B ≤ w.heap.size) (hv : validI seed h n = false) :
    Calls Tryz.prog 30 #[.agg #[u, .int .i64 h, .int .i64 n], u2] w (SignBad 3 w) := by
  obtain ⟨A, c, rfl, -, -⟩ := hu.mk_
  have hval := fun W (hW : SeesB W B (.slice A seed.length c) seed) => rsvalid_any B _ seed h n W hW
  rw [hv] at hval
  replace hval := Lib.hid hval
  replace hv := Lib.hid hv
  replace hu := Lib.hid hu
  go_enter Tryz.func30, Tryz.ntmps30
  go_wp2_with fail
  have hb0 : Below w.heap.size w ((w.alloc (.cells #[.slice A seed.length c, .int .i64 h, .int .i64 n] 25)).alloc (.cells #[.slice none 0 0, .int .i64 0, .int .i64 0] 25)) := bgo (balloc w _) (balloc _ _)
  have hx1 := Box.below (Box.new w 25 [.slice A seed.length c, .int .i64 h, .int .i64 n]) (balloc _ (.cells #[.slice none 0 0, .int .i64 0, .int .i64 0] 25))
  have hx2 := Box.new (w.alloc (.cells #[.slice A seed.length c, .int .i64 h, .int .i64 n] 25)) 25 [.slice none 0 0, .int .i64 0, .int .i64 0]
  have hz : (w.alloc (.cells #[.slice A seed.length c, .int .i64 h, .int .i64 n] 25)).heap.size = w.heap.size + 1 := World.size_alloc _ _
  rw [hz] at hx2
  change Box ((w.alloc (.cells #[.slice A seed.length c, .int .i64 h, .int .i64 n] 25)).alloc (.cells #[.slice none 0 0, .int .i64 0, .int .i64 0] 25)) _ _ _ at hx1 hx2
  generalize (w.alloc (.cells #[.slice A seed.length c, .int .i64 h, .int .i64 n] 25)).alloc (.cells #[.slice none 0 0, .int .i64 0, .int .i64 0] 25) = W0 at *
  clear hz
  obtain ⟨g, hg⟩ : ∃ g, g = w.heap.size := ⟨_, rfl⟩
  rw [← hg] at hx1 hx2 ⊢
  replace hg := Lib.hid hg
  replace hb0 := Lib.hid hb0
  refine (hval.out W0 (hu.out.below (hb0.out.mono hB))).mono ?_
  rintro e W1 ⟨rfl, hb1⟩
  replace hx1 := hx1.below hb1
  replace hx2 := hx2.below hb1
  replace hb1 := bgo hb0.out hb1
  have z0 : W1.cell? ⟨g + 1, 0, none⟩ = some (.slice none 0 0) := hx2.cell 0
  have z1 : W1.cell? ⟨g + 1, 1, none⟩ = some (.int .i64 0) := hx2.cell 1
  have z2 : W1.cell? ⟨g + 1, 2, none⟩ = some (.int .i64 0) := hx2.cell 2
  have f0 := hx2.frozen 0
  have f1 := hx2.frozen 1
  have f2 := hx2.frozen 2
  have kz := ((hx2.set 0 (.slice none 0 0)).set 1 (.int .i64 0)).set 2 (.int .i64 0)
  simp only [List.set_cons_succ, List.set_cons_zero] at kz
  have hgw : w.heap.size ≤ g + 1 := by have := hg.out; omega
  have hlt := hx2.lt
  have hend : Below w.heap.size w (((W1.setCell ⟨g + 1, 0, none⟩ (.slice none 0 0)).setCell ⟨g + 1, 1, none⟩ (.int .i64 0)).setCell ⟨g + 1, 2, none⟩ (.int .i64 0)) :=
    ((hb1.setCell (p := ⟨g + 1, 0, none⟩) hgw _).setCell (p := ⟨g + 1, 1, none⟩) hgw _).setCell (p := ⟨g + 1, 2, none⟩) hgw _
  replace kz := Lib.hid kz
  replace hend := Lib.hid hend
  clear hx1 hx2 hb1 hval hb0
  dsimp only
  go_wp2_with fail
  have kz2 := kz.out
  have hend2 := hend.out
  clear kz hend z0 z1 z2 f0 f1 f2
  generalize ((W1.setCell ⟨g + 1, 0, none⟩ (.slice none 0 0)).setCell ⟨g + 1, 1, none⟩ (.int .i64 0)).setCell ⟨g + 1, 2, none⟩ (.int .i64 0) = W2 at *
  have z0 : W2.cell? ⟨g + 1, 0, none⟩ = some (.slice none 0 0) := kz2.cell 0
  have z1 : W2.cell? ⟨g + 1, 1, none⟩ = some (.int .i64 0) := kz2.cell 1
  have z2 : W2.cell? ⟨g + 1, 2, none⟩ = some (.int .i64 0) := kz2.cell 2
  refine bodyPost_ret (v := .tuple #[.agg #[.slice none 0 0, .int .i64 0, .int .i64 0], .slice none 0 0, .int .i64 3]) (by simp [results, Tryz.results30, go_sem, z0, z1, z2]) rfl ?_
  exact ⟨rfl, hend2⟩
set_option maxRecDepth 100000 in
theorem rsign_bad7 (B : Nat) (u u2 : Value) (seed : Bs) (k : Nat) (w : World) (hu : SeesB w B u seed) (hB : B ≤ w.heap.size) (hl : seed.length = 32) (hk : k ≤ 6) :
    Calls Tryz.prog 30 #[.agg #[u, .int .i64 (k : Int), .int .i64 ((2 ^ k : Nat) : Int)], u2] w (SignBad 7 w) := by
  have hv := validI_mk seed k (2 ^ k) hl hk (Nat.le_refl _)
  clear hl
  have hp := wrap_pow k hk
  have hp64 := pow_le64 k hk
  have m0 : IntKind.u64.wrap (k : Int) = (k : Int) := by rw [IntKind.wrap_u64]; omega
  generalize 2 ^ k = N at *
  obtain ⟨A, c, rfl, -, -⟩ := hu.mk_
  have hval := fun W (hW : SeesB W B (.slice A seed.length c) seed) => rsvalid_any B _ seed k N W hW
  rw [hv] at hval
  replace hval := Lib.hid hval
  replace hv := Lib.hid hv
  replace hu := Lib.hid hu
  go_enter Tryz.func30, Tryz.ntmps30
  go_wp2_with fail
  have hb0 : Below w.heap.size w ((w.alloc (.cells #[.slice A seed.length c, .int .i64 (k : Int), .int .i64 (N : Int)] 25)).alloc (.cells #[.slice none 0 0, .int .i64 0, .int .i64 0] 25)) := bgo (balloc w _) (balloc _ _)
  have hx1 := Box.below (Box.new w 25 [.slice A seed.length c, .int .i64 (k : Int), .int .i64 (N : Int)]) (balloc _ (.cells #[.slice none 0 0, .int .i64 0, .int .i64 0] 25))
  have hx2 := Box.new (w.alloc (.cells #[.slice A seed.length c, .int .i64 (k : Int), .int .i64 (N : Int)] 25)) 25 [.slice none 0 0, .int .i64 0, .int .i64 0]
  have hz : (w.alloc (.cells #[.slice A seed.length c, .int .i64 (k : Int), .int .i64 (N : Int)] 25)).heap.size = w.heap.size + 1 := World.size_alloc _ _
  rw [hz] at hx2
  change Box ((w.alloc (.cells #[.slice A seed.length c, .int .i64 (k : Int), .int .i64 (N : Int)] 25)).alloc (.cells #[.slice none 0 0, .int .i64 0, .int .i64 0] 25)) _ _ _ at hx1 hx2
  generalize (w.alloc (.cells #[.slice A seed.length c, .int .i64 (k : Int), .int .i64 (N : Int)] 25)).alloc (.cells #[.slice none 0 0, .int .i64 0, .int .i64 0] 25) = W0 at *
  clear hz
  obtain ⟨g, hg⟩ : ∃ g, g = w.heap.size := ⟨_, rfl⟩
  rw [← hg] at hx1 hx2 ⊢
  replace hg := Lib.hid hg
  replace hb0 := Lib.hid hb0
  refine (hval.out W0 (hu.out.below (hb0.out.mono hB))).mono ?_
  rintro e W1 ⟨rfl, hb1⟩
  replace hx1 := hx1.below hb1
  replace hx2 := hx2.below hb1
  replace hb1 := bgo hb0.out hb1
  have c1 : W1.cell? ⟨g, 1, none⟩ = some (.int .i64 (k : Int)) := hx1.cell 1
  have c2 : W1.cell? ⟨g, 2, none⟩ = some (.int .i64 (N : Int)) := hx1.cell 2
  have z0 : W1.cell? ⟨g + 1, 0, none⟩ = some (.slice none 0 0) := hx2.cell 0
  have z1 : W1.cell? ⟨g + 1, 1, none⟩ = some (.int .i64 0) := hx2.cell 1
  have z2 : W1.cell? ⟨g + 1, 2, none⟩ = some (.int .i64 0) := hx2.cell 2
  have f0 := hx2.frozen 0
  have f1 := hx2.frozen 1
  have f2 := hx2.frozen 2
  have kz := ((hx2.set 0 (.slice none 0 0)).set 1 (.int .i64 0)).set 2 (.int .i64 0)
  simp only [List.set_cons_succ, List.set_cons_zero] at kz
  have hgw : w.heap.size ≤ g + 1 := by have := hg.out; omega
  have hlt := hx2.lt
  have hend : Below w.heap.size w (((W1.setCell ⟨g + 1, 0, none⟩ (.slice none 0 0)).setCell ⟨g + 1, 1, none⟩ (.int .i64 0)).setCell ⟨g + 1, 2, none⟩ (.int .i64 0)) :=
    ((hb1.setCell (p := ⟨g + 1, 0, none⟩) hgw _).setCell (p := ⟨g + 1, 1, none⟩) hgw _).setCell (p := ⟨g + 1, 2, none⟩) hgw _
  replace kz := Lib.hid kz
  replace hend := Lib.hid hend
  clear hx1 hx2 hb1 hval hb0
  dsimp only
  go_wp2_with fail
  have kz2 := kz.out
  have hend2 := hend.out
  clear kz hend z0 z1 z2 f0 f1 f2
  generalize ((W1.setCell ⟨g + 1, 0, none⟩ (.slice none 0 0)).setCell ⟨g + 1, 1, none⟩ (.int .i64 0)).setCell ⟨g + 1, 2, none⟩ (.int .i64 0) = W2 at *
  have z0 : W2.cell? ⟨g + 1, 0, none⟩ = some (.slice none 0 0) := kz2.cell 0
  have z1 : W2.cell? ⟨g + 1, 1, none⟩ = some (.int .i64 0) := kz2.cell 1
  have z2 : W2.cell? ⟨g + 1, 2, none⟩ = some (.int .i64 0) := kz2.cell 2
  refine bodyPost_ret (v := .tuple #[.agg #[.slice none 0 0, .int .i64 0, .int .i64 0], .slice none 0 0, .int .i64 7]) (by simp [results, Tryz.results30, go_sem, z0, z1, z2]) rfl ?_
  exact ⟨rfl, hend2⟩
end
section
open Go.RowKit Go.Shelf
set_option linter.unusedVariables false
attribute [local go_sem] Oper.semAt_some
def chunkV (b o size k : Nat) : Value := .slice (some ⟨b, o + size * k, none⟩) size size
theorem range_snoc (k : Nat) : List.range (k + 1) = List.range k ++ [k] := List.range_succ
theorem run_cut3g {P : Program} (t : TypeId) (ht : P.underlying t = some (.slice (P.elem t))) (size : Nat) (hs : ∀ w, (sizeOf (P.elem t)).run P w = .ok size w) (A : Option Addr) (n c : Nat) (l h : Int) (h0 : 0 ≤ l) (h1 : l ≤ h) (h2 : h ≤ c) (w : World) :
    (Instr.slice t (.slice A n c) (some (.int .i64 l)) (some (.int .i64 h)) (some (.int .i64 h))).run P w = .ok (.slice (cutA A h.toNat l.toNat size) (h.toNat - l.toNat) (h.toNat - l.toNat)) w := by
  rw [run_slice_lhm w t A n c ht .i64 .i64 .i64 l h h h0 h1 (Int.le_refl _) h2, hs]; rfl
set_option maxRecDepth 100000 in
theorem run_cut3 (b o len cap sk size : Nat) (h1 : sk + size ≤ cap) (h2 : 0 < size) (w : World) :
    (Instr.slice 23 (.slice (some ⟨b, o, none⟩) len cap) (some (.int .i64 (sk : Int))) (some (.int .i64 ((sk : Int) + (size : Int)))) (some (.int .i64 ((sk : Int) + (size : Int))))).run Tryz.prog w = .ok (.slice (some ⟨b, o + sk, none⟩) size size) w := by
  have h := run_cut3g (P := Tryz.prog) 23 Tryz.underlying23 1 byte_size (some ⟨b, o, none⟩) len cap (sk : Int) ((sk : Int) + (size : Int)) (by omega) (by omega) (by omega) w
  rw [Int.toNat_natCast, show ((sk : Int) + (size : Int)).toNat = sk + size from by omega, cutA, if_neg (by omega), Option.map_some, add_zero', Nat.mul_one, Nat.add_sub_cancel_left] at h
  exact h
set_option maxRecDepth 100000 in
set_option maxHeartbeats 2000000 in
theorem chunk1_in (n : Nat) (hn : 1 ≤ n) (l Bs Bn n₀ b o cap size N : Nat) (A : Option Addr) (hA : 0 < N → A = some ⟨b, o, none⟩) (hs0 : 0 < size) (hs1 : size ≤ 64) (hN : N ≤ 64) (hcap : size * N ≤ cap) (hbs : Bs < n₀) (hbn : Bn < n₀) (J Jx : List Nat → World → Prop) (B0 : Nat) (hJ : AbidesFrom B0 J)
    (hY : ∀ pre x W, J pre W → pre.length < N → YieldAt Fence.wide (n - 1) Tryz.prog l #[chunkV b o size x] W fun e W' =>
      (e = .returned (.bool true) ∧ J (pre ++ [x]) W' ∧ Below n₀ W W') ∨ (e = .returned (.bool false) ∧ Jx (pre ++ [x]) W'))
    (W : World) (hBs : W.cell? ⟨Bs, 0, none⟩ = some (.slice A (size * N) cap)) (hBn : W.cell? ⟨Bn, 0, none⟩ = some (.int .i64 (size : Int))) (h0 : J [] W) :
    CallsIn Fence.wide n Tryz.prog 123 #[.func (.yield l) #[] #[], .pointer (some ⟨Bs, 0, none⟩), .pointer (some ⟨Bn, 0, none⟩)] W fun e W' => (∃ v, e = .returned v) ∧
      ((∃ ys, ys = List.range N ∧ J ys W') ∨ (∃ pre, (∃ k, k ≤ N ∧ pre = List.range k) ∧ Jx pre W')) := by
  have hsn : size * N ≤ 4096 := Nat.le_trans (Nat.mul_le_mul hs1 hN) (by omega)
  refine callsIn_of_wp Tryz.func123 rfl trivial ?_ rfl
  simp only [Tryz.ntmps123, List.size_toArray, List.length_cons, List.length_nil, Nat.reduceAdd, Nat.reduceSub, Array.replicate_succ, Array.replicate_zero, List.push_toArray, List.append_toArray, List.nil_append, List.cons_append]
  gi_wp2
  gi_loopw [4, 5] (fun i _ wr => ∃ k : Nat, k ≤ N ∧ i = .int .i64 ((size * k : Nat) : Int) ∧ J (List.range k) wr ∧ Hid (Below n₀ W wr)) (fun i _ _ => size * N - (intOf i).toNat)
  case atStart => exact ⟨0, Nat.zero_le _, rfl, h0, Below.refl _ _⟩
  case round =>
    obtain ⟨k, hk, rfl, hJs, hnx⟩ := hrel
    have c0 := (hnx.out.cell (p := ⟨Bs, 0, none⟩) hbs).trans hBs
    have c1 := (hnx.out.cell (p := ⟨Bn, 0, none⟩) hbn).trans hBn
    by_cases hlt : k < N
    · obtain rfl := hA (by omega)
      have hch : chunkV b o size k = .slice (some ⟨b, o + size * k, none⟩) size size := rfl
      have hmul : size * (k + 1) ≤ size * N := Nat.mul_le_mul_left _ hlt
      rw [Nat.mul_succ] at hmul
      have hnext : Hid (size * (k + 1) = size * k + size) := Nat.mul_succ _ _
      generalize size * k = sk at *
      generalize hSN : size * N = SN at *
      replace hSN := Lib.hid hSN
      have r3 := run_cut3 b o SN cap sk size (by omega) hs0
      have r1 : ∀ W, (Instr.slice 23 (.slice (some ⟨b, o, none⟩) SN cap) (some (.int .i64 (sk : Int))) none none).run Tryz.prog W = .ok (.slice (some ⟨b, o + sk, none⟩) (SN - sk) (cap - sk)) W := fun W => by
        have := run_cut_from (P := Tryz.prog) 23 Tryz.underlying23 1 byte_size (some ⟨b, o, none⟩) SN cap .i64 (sk : Int) (by omega) (by omega) W
        rw [Int.toNat_natCast, cutA, if_neg (by omega), Option.map_some, add_zero', Nat.mul_one] at this
        exact this
      have i0 : (sk : Int) < (SN : Int) := by omega
      have i1 : ¬ (((SN - sk : Nat) : Int) < (size : Int)) := by omega
      have i2 : ¬ ((SN : Int) - (sk : Int) < (size : Int)) := by omega
      have i3 : (sk : Int) ≤ (SN : Int) := by omega
      have i4 : min (size : Int) ((SN - sk : Nat) : Int) = (size : Int) := by omega
      replace hch := Lib.hid hch
      gi_wp2
      gi_quiet (fail)
      have hJq : J (List.range k) (wr.drewN nq) := hJ _ _ _ none hJs ⟨rfl, rfl, rfl, Nat.le_refl _, fun _ _ _ => rfl⟩ (fun r e => by cases e)
      obtain ⟨fn, tmps, assign, body, hy, hR⟩ := hY _ k (wr.drewN nq) hJq (by rw [List.length_range]; exact hlt)
      rw [hch.out] at hy
      have hxq : Hid (Below n₀ W (wr.drewN nq)) := below_drewN hnx.out nq
      rw [← range_snoc] at hR
      have c0q : (wr.drewN nq).cell? ⟨Bs, 0, none⟩ = some (.slice (some ⟨b, o, none⟩) SN cap) := c0
      clear hJq hJs hnx c0 c1
      generalize wr.drewN nq = wq at *
      gi_wp2
      refine hR.mono ?_
      rintro e W3 (⟨rfl, hJ3, hk3⟩ | ⟨rfl, hJx3⟩)
      · have c1 := (hxq.out.cell (p := ⟨Bn, 0, none⟩) hbn).trans hBn
        have c2 := (hk3.cell (p := ⟨Bn, 0, none⟩) hbn).trans c1
        have hx3 : Hid (Below n₀ W W3) := hxq.out.trans hk3
        clear hk3 hxq c1
        gi_wp2
        go_roundw
        case rel => exact ⟨k + 1, by omega, by rw [hnext.out]; go_num, hJ3, hx3⟩
        case measure => simp [intOf]; omega
      · gi_wp2
        refine bodyPost_ret (results_none rfl _ _ _) rfl ?_
        exact ⟨⟨_, rfl⟩, .inr ⟨_, ⟨k + 1, by omega, rfl⟩, hJx3⟩⟩
    · obtain rfl : k = N := by omega
      generalize size * k = SN at *
      gi_wp2
      go_end0
      exact ⟨⟨_, rfl⟩, .inl ⟨_, rfl, hJs⟩⟩
theorem chunk_stops (n : Nat) (hn : 1 ≤ n) (Bs Bn n₀ b o cap size N : Nat) (A : Option Addr) (hA : 0 < N → A = some ⟨b, o, none⟩) (hs0 : 0 < size) (hs1 : size ≤ 64) (hN : N ≤ 64) (hcap : size * N ≤ cap) (hbs : Bs < n₀) (hbn : Bn < n₀) (w : World) (hn0 : n₀ ≤ w.heap.size)
    (hBs : w.cell? ⟨Bs, 0, none⟩ = some (.slice A (size * N) cap)) (hBn : w.cell? ⟨Bn, 0, none⟩ = some (.int .i64 (size : Int))) :
    SeqStopsK Fence.wide n Tryz.prog 123 #[.pointer (some ⟨Bs, 0, none⟩), .pointer (some ⟨Bn, 0, none⟩)] (fun k : Nat => #[chunkV b o size k]) (Below n₀) (fun ys => ys = List.range N) (fun pre => ∃ k, k ≤ N ∧ pre = List.range k) N w := fun l J Jx W hW hJ _ hY h0 =>
  chunk1_in n hn l Bs Bn n₀ b o cap size N A hA hs0 hs1 hN hcap hbs hbn J Jx W.heap.size hJ hY W ((hW.cell (p := ⟨Bs, 0, none⟩) (by dsimp only; omega)).trans hBs) ((hW.cell (p := ⟨Bn, 0, none⟩) (by dsimp only; omega)).trans hBn) h0
set_option maxRecDepth 100000 in
set_option maxHeartbeats 2000000 in
theorem appendSeq_in (n : Nat) (hn : 3 ≤ n) (Bs Bn b o cap size N : Nat) (A : Option Addr) (hA : 0 < N → A = some ⟨b, o, none⟩) (hs0 : 0 < size) (hs1 : size ≤ 64) (hN : N ≤ 64) (hcap : size * N ≤ cap) (w : World) (hbs : Bs < w.heap.size) (hbn : Bn < w.heap.size)
    (hBs : w.cell? ⟨Bs, 0, none⟩ = some (.slice A (size * N) cap)) (hBn : w.cell? ⟨Bn, 0, none⟩ = some (.int .i64 (size : Int))) :
    CallsIn Fence.wide n Tryz.prog 122 #[.slice none 0 0, .func (.func 123) #[] #[.pointer (some ⟨Bs, 0, none⟩), .pointer (some ⟨Bn, 0, none⟩)]] w fun e W' => ∃ v, e = .returned v ∧ W'.ownsRow w.heap.size 23 1 v (List.range N).length ((List.range N).map (chunkV b o size)) ∧ Below w.heap.size w W' := by
  have h1 : 1 ≤ n := by omega
  obtain ⟨i0, hi, hz0, hz1, hz2⟩ := info_parts slice_info
  refine callsIn_of_wp_marks Tryz.func122 rfl trivial ?_ rfl
  simp only [Tryz.ntmps122, List.size_toArray, List.length_cons, List.length_nil, Nat.reduceAdd, Nat.reduceSub, Array.replicate_succ, Array.replicate_zero, List.push_toArray, List.append_toArray, List.nil_append, List.cons_append]
  gi_wp2
  have bO := Boxed.new w 35 (.slice none 0 0)
  have hB0 : Below w.heap.size w (w.alloc (.cells #[.slice none 0 0] 35)) := balloc w _
  refine wpIn_rangeFunc_ownG rfl h1 (gf := 123) (lb := #[.pointer (some ⟨Bs, 0, none⟩), .pointer (some ⟨Bn, 0, none⟩)]) rfl trivial (enters_of Tryz.func123 (by kernel_rfl) rfl)
    (chunk_stops (n - 1) (by omega) Bs Bn w.heap.size b o cap size N A hA hs0 hs1 hN hcap hbs hbn _ (by simp) ((hB0.cell (p := ⟨Bs, 0, none⟩) hbs).trans hBs) ((hB0.cell (p := ⟨Bn, 0, none⟩) hbn).trans hBn)) belowK_t (belowK_b (by simp)) (Below.refl _ _) (fun _ => rfl)
    (fun pre W => (∃ v, Boxed W w.heap.size 35 v ∧ W.ownsRow w.heap.size 23 1 v pre.length (pre.map (chunkV b o size)) ∧ True) ∧ Below w.heap.size w W)
    (fun _ _ _ => False)
    (OwnFrom.and (Own.from (holdsRow_own w.heap.size w.heap.size 35 23 1 (fun pre : List Nat => pre.length) (fun pre => pre.map (chunkV b o size)) (fun _ _ => True)) _) (ownFrom_below (Nat.le_refl _) (by simp)))
    (fun _ _ _ _ _ hs _ _ => hs)
    ⟨⟨_, bO, World.ownsRow_nil _ _ _ _, trivial⟩, hB0⟩
    (fun k => { tmps := #[.slice none 0 0, .func (.func 123) #[] #[.pointer (some ⟨Bs, 0, none⟩), .pointer (some ⟨Bn, 0, none⟩)], .pointer (some ⟨w.heap.size, 0, none⟩), undef, .slice none 0 0, .slice (some ⟨b, o + size * k, none⟩) size size, .func (.func 123) #[] #[.pointer (some ⟨Bs, 0, none⟩), .pointer (some ⟨Bn, 0, none⟩)], .slice (some ⟨b, o + size * k, none⟩) size size, undef, undef, undef, undef, undef], defers := [] }) ?assign ?body ?done ?stop
  case assign =>
    intro l x W K hK
    gi_wp2
    exact hK
  case body =>
    rintro l pre x W ⟨⟨v, hv, hrow, -⟩, hB⟩ hlt
    have hc := hv.cell
    have hcx : chunkV b o size x = .slice (some ⟨b, o + size * x, none⟩) size size := rfl
    generalize (⟨b, o + size * x, none⟩ : Addr) = ad at *
    replace hcx := Lib.hid hcx
    gi_wp2_with (gi_at_builtin; refine wpListIn_append_own _ rfl _ _ 35 rfl w.heap.size 23 i0 (.slice none 0 0) 1 24 Tryz.underlying35 hi hz0 hz1 hz2 rfl (by decide) _ _ _ rfl (hrow.alloc _) ⟨W.heap.size, 0, none⟩ 1 1 [.slice (some ad) size size] rfl rfl (cell_one_new _ _ _) (by simp [Value.oneCell']) (by unfold maxLen; omega) (by omega) (by have := hB.size; simp; omega) ?_; intro v' w1 hown' hgrow _; obtain ⟨g', cap', rfl⟩ := ownsRow_succ hown'; obtain ⟨hv1, hv2, hr2, hk2, hb2⟩ := hv.appended (by decide) hrow hB.size (Nat.le_refl _) hown' hgrow; have hc1 := hv1.cell; have hf1 := hv1.frozen)
    exact ⟨hk2.from _, hb2, ⟨_, hv2, by rw [List.map_append, List.map_singleton, hcx.out, List.length_append, List.length_singleton]; exact hr2, trivial⟩, hB.trans hb2⟩
  case done =>
    rintro D ys W hD rfl ⟨⟨v, hv, hrow, -⟩, hB⟩ hK
    have hc := hv.cell
    gi_wp2
    refine ⟨by simp, .inl ⟨_, _, rfl, run_takeDeferred hK, ?_⟩⟩
    exact ⟨_, results_tmp rfl _ _ _, v, rfl, ownsRow_putObj hrow _ hK rfl, hB.trans (belowK_b (w := w) (Nat.le_refl _) W D _ _ (by simp at hD; omega) hK rfl rfl)⟩
  case stop =>
    rintro D c pre W _ _ h _
    exact h.elim
end
section
open Go.RowKit Go.Shelf
set_option linter.unusedVariables false
attribute [local go_sem ↓] Go.wp_at_zero Go.wp_at_succ
theorem cutL_get (size n : Nat) (l : Bs) (k : Nat) (hk : k < n) : (cutL size n l).getD k [] = (l.drop (size * k)).take size := by
  induction n generalizing l k with
  | zero => omega
  | succ n ih =>
    cases k with
    | zero => simp [cutL]
    | succ k =>
      rw [cutL, List.getD_cons_succ, ih _ k (by omega), List.drop_drop, Nat.mul_succ, Nat.add_comm]
theorem chunk_sees {w : World} {B b o n c size k : Nat} {l : Bs} (h : SeesB w B (.slice (some ⟨b, o, none⟩) n c) l) (hk : size * k + size ≤ l.length) (hs : size ≤ 64) :
    SeesB w B (chunkV b o size k) ((l.drop (size * k)).take size) := by
  have hl : ((l.drop (size * k)).take size).length = size := by rw [List.length_take, List.length_drop]; omega
  unfold SeesB chunkV
  rw [hl]
  refine ⟨by rw [vb_len, hl, Nat.mul_one], _, size, rfl, Nat.le_refl _, by unfold maxLen; omega, fun h0 => ?_⟩
  obtain ⟨b', o', e, hb, hcell⟩ := h.at_ (by omega)
  cases e
  refine ⟨b, o + size * k, rfl, hb, fun j x hj => ?_⟩
  rw [vb_get, List.getElem?_take] at hj
  split at hj
  · rw [List.getElem?_drop] at hj
    obtain ⟨y, hy, rfl⟩ := Option.map_eq_some_iff.1 hj
    rw [Nat.add_assoc, hcell _ (List.getElem?_eq_some_iff.1 hy).1, List.getD_eq_getElem?_getD, hy]
    rfl
  · cases hj
set_option maxRecDepth 100000 in
theorem collect_any (Bs Bn b o cap size N : Nat) (A : Option Addr) (hA : 0 < N → A = some ⟨b, o, none⟩) (hs0 : 0 < size) (hs1 : size ≤ 64) (hN : N ≤ 64) (hcap : size * N ≤ cap) (w : World) (hbs : Bs < w.heap.size) (hbn : Bn < w.heap.size)
    (hBs : w.cell? ⟨Bs, 0, none⟩ = some (.slice A (size * N) cap)) (hBn : w.cell? ⟨Bn, 0, none⟩ = some (.int .i64 (size : Int))) :
    Calls Tryz.prog 89 #[.func (.func 123) #[] #[.pointer (some ⟨Bs, 0, none⟩), .pointer (some ⟨Bn, 0, none⟩)]] w fun e W' => ∃ v, e = .returned v ∧ W'.ownsRow w.heap.size 23 1 v (List.range N).length ((List.range N).map (chunkV b o size)) ∧ Below w.heap.size w W' := by
  have h := Lib.hid (callsIn_wide.1 (appendSeq_in 3 (by omega) Bs Bn b o cap size N A hA hs0 hs1 hN hcap w hbs hbn hBs hBn))
  clear hBs hBn hA hcap
  go_enter Tryz.func89, Tryz.ntmps89
  go_wp2_with fail
  refine h.out.mono ?_
  rintro e w1 ⟨v, rfl, h1, hb1⟩
  dsimp only
  go_wp2_with fail
  go_ret
  exact ⟨v, rfl, h1, hb1⟩
set_option maxRecDepth 100000 in
theorem chunk_any (A : Option Addr) (n c size : Nat) (hs0 : 0 < size) (w : World) :
    Calls Tryz.prog 90 #[.slice A n c, .int .i64 (size : Int)] w fun e w' => e = .returned (.func (.func 123) #[] #[.pointer (some ⟨w.heap.size, 0, none⟩), .pointer (some ⟨w.heap.size + 1, 0, none⟩)]) ∧ w' = (w.alloc (.cells #[.slice A n c] 23)).alloc (.cells #[.int .i64 (size : Int)] 3) := by
  have i0 : ¬ ((size : Int) < 1) := by omega
  go_enter Tryz.func90, Tryz.ntmps90
  go_wp2_with fail
  go_ret
  exact ⟨rfl, rfl⟩
set_option maxRecDepth 100000 in
theorem parts_any (B : Nat) (u : Value) (l : Bs) (size N : Nat) (w : World) (hu : SeesB w B u l) (hB : B ≤ w.heap.size) (hs0 : 0 < size) (hs1 : size ≤ 64) (hN : N ≤ 64) (hl : l.length = size * N) :
    Calls Tryz.prog 121 #[u, .int .i64 (size : Int)] w (GivesL (cutL size N l) w) := by
  obtain ⟨A, c, rfl, hc1, hc2⟩ := hu.mk_
  have hA : ∃ b o, 0 < N → A = some ⟨b, o, none⟩ := by
    rcases Nat.eq_zero_or_pos N with h0 | h0
    · exact ⟨0, 0, fun h => by omega⟩
    · obtain ⟨b, o, e, -⟩ := hu.at_ (by rw [hl]; exact Nat.mul_pos hs0 h0)
      exact ⟨b, o, fun _ => e⟩
  obtain ⟨b, o, hA⟩ := hA
  have hck := Lib.hid (chunk_any A l.length c size hs0 w)
  have hb1 : Below w.heap.size w ((w.alloc (.cells #[.slice A l.length c] 23)).alloc (.cells #[.int .i64 (size : Int)] 3)) := bgo (balloc w _) (balloc _ _)
  have hx1 := Box.below (Box.new w 23 [.slice A l.length c]) (balloc _ (.cells #[.int .i64 (size : Int)] 3))
  have hx2 := Box.new (w.alloc (.cells #[.slice A l.length c] 23)) 3 [.int .i64 (size : Int)]
  have hz : (w.alloc (.cells #[.slice A l.length c] 23)).heap.size = w.heap.size + 1 := World.size_alloc _ _
  rw [hz] at hx2
  change Box ((w.alloc (.cells #[.slice A l.length c] 23)).alloc (.cells #[.int .i64 (size : Int)] 3)) _ _ _ at hx1 hx2
  generalize (w.alloc (.cells #[.slice A l.length c] 23)).alloc (.cells #[.int .i64 (size : Int)] 3) = W1 at *
  have hco := Lib.hid (collect_any w.heap.size (w.heap.size + 1) b o c size N A hA hs0 hs1 hN (by omega) W1 hx1.lt hx2.lt (by rw [← hl]; exact hx1.cell 0) (hx2.cell 0))
  have hfin : Hid (∀ W2 v, W2.ownsRow W1.heap.size 23 1 v (List.range N).length ((List.range N).map (chunkV b o size)) → Below W1.heap.size W1 W2 → OwnL W2 w.heap.size v (cutL size N l)) := by
    intro W2 v h1 h2
    have hb2 := bgo hb1 h2
    have hu2 := hu.below (hb2.mono hB)
    refine ⟨(List.range N).map (chunkV b o size), ?_, fun k hk => ?_⟩
    · rw [cutL_len]
      rw [List.length_range] at h1
      refine ⟨h1.1, ?_⟩
      rcases h1.2 with h | ⟨g, cap, cur, e1, e2, e3⟩
      · exact .inl h
      · exact .inr ⟨g, cap, cur, e1, by have := hb1.size; omega, e3⟩
    · rw [cutL_len] at hk
      have hm : size * k + size ≤ l.length := by
        rw [hl, ← Nat.mul_succ]; exact Nat.mul_le_mul_left _ hk
      obtain rfl := hA (by omega)
      refine ⟨chunkV b o size k, by rw [List.getElem?_map, List.getElem?_range hk]; rfl, ?_⟩
      rw [cutL_get _ _ _ _ hk]
      exact Elt.of_old (chunk_sees hu2 hm hs1) (Nat.le_trans hB hb2.size) (fun j hj => by have := (h1.lt j hj).1; have := hb1.size; omega)
  replace hb1 := Lib.hid hb1
  clear hx1 hx2 hu hA hl
  go_enter Tryz.func121, Tryz.ntmps121
  go_wp2_with fail
  refine hck.out.mono ?_
  rintro e w1 ⟨rfl, rfl⟩
  dsimp only
  go_wp2_with fail
  refine hco.out.mono ?_
  rintro e w2 ⟨v, rfl, h1, hb2⟩
  dsimp only
  go_wp2_with fail
  go_ret
  exact ⟨v, rfl, hfin.out _ _ h1 hb2, bgo hb1.out hb2⟩
end
section
open Go.RowKit
set_option linter.unusedVariables false
attribute [local go_sem ↓] Go.wp_at_zero Go.wp_at_succ
def CutSome (a b : Bs) (w : World) (e : Ending) (w' : World) : Prop := ∃ v1 v2, e = .returned (.tuple #[v1, v2, .bool true]) ∧ OwnB w' w.heap.size v1 a ∧ OwnB w' w.heap.size v2 b ∧ Below w.heap.size w w'
theorem cut_no (B : Nat) (u : Value) (l : Bs) (n : Nat) (w : World) (hu : SeesB w B u l) (hn : l.length < n) :
    Calls Tryz.prog 120 #[u, .int .i64 (n : Int)] w fun e w' => e = .returned (.tuple #[.slice none 0 0, .slice none 0 0, .bool false]) ∧ w' = w := by
  obtain ⟨A, c, rfl, -, -⟩ := hu.mk_
  clear hu
  have i0 : ¬ ((n : Int) < 0) := by omega
  have i1 : (l.length : Int) < (n : Int) := by omega
  go_enter Tryz.func120, Tryz.ntmps120
  go_wp2_with fail
  go_returns
  exact ⟨rfl, rfl⟩
set_option maxRecDepth 100000 in
theorem cut_yes (B : Nat) (u : Value) (l : Bs) (n : Nat) (w : World) (hu : SeesB w B u l) (hB : B ≤ w.heap.size) (hn : n ≤ l.length) (hl : l.length ≤ 1048576) :
    Calls Tryz.prog 120 #[u, .int .i64 (n : Int)] w (CutSome (l.take n) (l.drop n) w) := by
  obtain ⟨A, c, rfl, hc1, hc2⟩ := hu.mk_
  have i0 : ¬ ((n : Int) < 0) := by omega
  have i1 : ¬ ((l.length : Int) < (n : Int)) := by omega
  have i2 : (n : Int) ≤ (l.length : Int) := by omega
  have i3 : (n : Int) ≤ (c : Int) := by omega
  have i4 : (0 : Int) ≤ (n : Int) := by omega
  have r1 := run_cut_to (P := Tryz.prog) 23 Tryz.underlying23 1 byte_size A l.length c .i64 (n : Int) (by omega) (by omega)
  have r2 := run_cut_from (P := Tryz.prog) 23 Tryz.underlying23 1 byte_size A l.length c .i64 (n : Int) (by omega) (by omega)
  rw [Int.toNat_natCast] at r1 r2
  have c1 := SeesB.cut (a := 0) (b := n) hu (by omega) hn
  have c2 := SeesB.cut (a := n) (b := l.length) hu hn (Nat.le_refl _)
  rw [List.drop_zero, Nat.sub_zero, Nat.sub_zero] at c1
  rw [Nat.sub_zero, Nat.sub_zero] at r1
  rw [List.take_of_length_le (by rw [List.length_drop]; omega)] at c2
  have h1 := fun W (hW : Below w.heap.size w W) => clone_any B _ _ W (c1.below (hW.mono hB)) (Nat.le_trans hB hW.size) (by rw [List.length_take]; omega)
  have h2 := fun W (hW : Below w.heap.size w W) => clone_any B _ _ W (c2.below (hW.mono hB)) (Nat.le_trans hB hW.size) (by rw [List.length_drop]; omega)
  generalize cutA A c 0 1 = A1 at *
  generalize cutA A c n 1 = A2 at *
  replace h1 := Lib.hid h1
  replace h2 := Lib.hid h2
  clear c1 c2 hu
  go_enter Tryz.func120, Tryz.ntmps120
  go_wp2_with fail
  go_region_held3 (fun W' : World => True) (trivial)
    (first
      | (go_at_call 80; have _h := hb1; clear _h; refine (h2.out _ hb1).mono ?_; rintro e w2 ⟨v2, rfl, k2, hb2⟩)
      | (go_at_call 80; refine (h1.out _ (bdrew w)).mono ?_; rintro e w1 ⟨v1, rfl, k1, hb1⟩
         replace hb1 := (bdrew w).trans hb1))
  all_goals
    go_wp2_with fail
    go_returns
    exact ⟨v1, v2, rfl, (k1.below hb2).mono (Nat.le_refl _), k2.mono hb1.size, bgo hb1 hb2⟩
def ParseSome (s : Sig) (w : World) (e : Ending) (w' : World) : Prop :=
  ∃ v1 v2, e = .returned (.tuple #[.agg #[.int .i64 (s.height : Int), .int .i64 (s.index : Int), v1, v2], .bool true]) ∧ OwnL w' w.heap.size v1 s.elements ∧ OwnL w' w.heap.size v2 s.path ∧ Below w.heap.size w w'
def ParseNone (w : World) (e : Ending) (w' : World) : Prop :=
  e = .returned (.tuple #[.agg #[.int .i64 0, .int .i64 0, .slice none 0 0, .slice none 0 0], .bool false]) ∧ Below w.heap.size w w'
theorem zero_set4 {W : World} {g : Nat} {T : TypeId} {a b c d : Value} (h : Box W g T [a, b, c, d]) (x0 x1 x2 x3 : Value) : Box ((((W.setCell ⟨g, 0, none⟩ x0).setCell ⟨g, 1, none⟩ x1).setCell ⟨g, 2, none⟩ x2).setCell ⟨g, 3, none⟩ x3) g T [x0, x1, x2, x3] := by
  have := (((h.set 0 x0).set 1 x1).set 2 x2).set 3 x3
  simpa using this
theorem below_set4 {w W : World} {g : Nat} (h : Below w.heap.size w W) (hg : w.heap.size ≤ g) (x0 x1 x2 x3 : Value) : Below w.heap.size w ((((W.setCell ⟨g, 0, none⟩ x0).setCell ⟨g, 1, none⟩ x1).setCell ⟨g, 2, none⟩ x2).setCell ⟨g, 3, none⟩ x3) :=
  (((h.setCell (p := ⟨g, 0, none⟩) hg _).setCell (p := ⟨g, 1, none⟩) hg _).setCell (p := ⟨g, 2, none⟩) hg _).setCell (p := ⟨g, 3, none⟩) hg _
set_option maxRecDepth 100000 in
theorem parse_short (B : Nat) (u : Value) (l : Bs) (w : World) (hu : SeesB w B u l) (hB : B ≤ w.heap.size) (hl : l.length < 5) :
    Calls Tryz.prog 87 #[u] w (ParseNone w) := by
  have hb0 := balloc w (.cells #[.int .i64 0, .int .i64 0, .slice none 0 0, .slice none 0 0] 123)
  have hx := Box.new w 123 [.int .i64 0, .int .i64 0, .slice none 0 0, .slice none 0 0]
  change Box (w.alloc (.cells #[.int .i64 0, .int .i64 0, .slice none 0 0, .slice none 0 0] 123)) _ _ _ at hx
  have hc := cut_no B u l 5 (w.alloc (.cells #[.int .i64 0, .int .i64 0, .slice none 0 0, .slice none 0 0] 123)) (hu.below (hb0.mono hB)) hl
  obtain ⟨A, c, rfl, -, -⟩ := hu.mk_
  replace hc := Lib.hid hc
  clear hu
  go_enter Tryz.func87, Tryz.ntmps87
  go_wp2_with fail
  refine hc.out.mono ?_
  rintro e w1 ⟨rfl, rfl⟩
  clear hc
  generalize w.alloc (.cells #[.int .i64 0, .int .i64 0, .slice none 0 0, .slice none 0 0] 123) = W at *
  have z0 : W.cell? ⟨w.heap.size, 0, none⟩ = some (.int .i64 0) := hx.cell 0
  have z1 : W.cell? ⟨w.heap.size, 1, none⟩ = some (.int .i64 0) := hx.cell 1
  have z2 : W.cell? ⟨w.heap.size, 2, none⟩ = some (.slice none 0 0) := hx.cell 2
  have z3 : W.cell? ⟨w.heap.size, 3, none⟩ = some (.slice none 0 0) := hx.cell 3
  have f0 := hx.frozen 0
  have f1 := hx.frozen 1
  have f2 := hx.frozen 2
  have f3 := hx.frozen 3
  have hlt := hx.lt
  have kz := Lib.hid (zero_set4 hx (.int .i64 0) (.int .i64 0) (.slice none 0 0) (.slice none 0 0))
  have kb := Lib.hid (below_set4 hb0 (Nat.le_refl _) (.int .i64 0) (.int .i64 0) (.slice none 0 0) (.slice none 0 0))
  clear hx hb0
  dsimp only
  go_wp2_with fail
  clear z0 z1 z2 z3 f0 f1 f2 f3
  generalize (((W.setCell ⟨w.heap.size, 0, none⟩ (.int .i64 0)).setCell ⟨w.heap.size, 1, none⟩ (.int .i64 0)).setCell ⟨w.heap.size, 2, none⟩ (.slice none 0 0)).setCell ⟨w.heap.size, 3, none⟩ (.slice none 0 0) = W2 at *
  have z0 : W2.cell? ⟨w.heap.size, 0, none⟩ = some (.int .i64 0) := kz.out.cell 0
  have z1 : W2.cell? ⟨w.heap.size, 1, none⟩ = some (.int .i64 0) := kz.out.cell 1
  have z2 : W2.cell? ⟨w.heap.size, 2, none⟩ = some (.slice none 0 0) := kz.out.cell 2
  have z3 : W2.cell? ⟨w.heap.size, 3, none⟩ = some (.slice none 0 0) := kz.out.cell 3
  refine bodyPost_ret (v := .tuple #[.agg #[.int .i64 0, .int .i64 0, .slice none 0 0, .slice none 0 0], .bool false]) (by simp [results, Tryz.results87, go_sem, z0, z1, z2, z3]) rfl ?_
  exact ⟨rfl, kb.out⟩
theorem foldl_lt (l : Bs) : ∀ v : Nat, l.foldl (fun v x => v * 256 + x.toNat) v < (v + 1) * 256 ^ l.length := by
  induction l with
  | nil => intro v; simp
  | cons x l ih =>
    intro v
    have h1 := ih (v * 256 + x.toNat)
    have h2 := x.toNat_lt
    rw [List.foldl_cons, List.length_cons, Nat.pow_succ, Nat.mul_comm (256 ^ l.length), ← Nat.mul_assoc]
    exact Nat.lt_of_lt_of_le h1 (Nat.mul_le_mul_right _ (by omega))
theorem getB_lt4 (l : Bs) (h : l.length = 4) : getB l < 4294967296 := by
  rw [getB_val]
  have := foldl_lt l 0
  rw [h] at this
  have h2 := Nat.mod_le (valB l) 18446744073709551616
  unfold valB at h2 ⊢
  omega
theorem cutL_take (size n : Nat) (b : Bs) : cutL size n (b.take (size * n)) = cutL size n b := by
  induction n generalizing b with
  | zero => rfl
  | succ n ih =>
    rw [cutL, cutL, List.take_take, Nat.min_eq_left (by rw [Nat.mul_succ]; omega), List.drop_take, show size * (n + 1) - size = size * n from by rw [Nat.mul_succ]; omega, ih]
theorem wrap_pow2 (h : Nat) (hh : h ≤ 6) : IntKind.i64.wrap ((2 : Int) ^ h) = ((2 ^ h : Nat) : Int) := by
  rcases (by omega : h = 0 ∨ h = 1 ∨ h = 2 ∨ h = 3 ∨ h = 4 ∨ h = 5 ∨ h = 6) with rfl | rfl | rfl | rfl | rfl | rfl | rfl
  all_goals decide +kernel
def NoB (a : Value) : Prop := ∀ n, a ≠ .int .u8 n
theorem NoB.i (n : Int) : NoB (.int .i64 n) := fun m e => by cases e
theorem NoB.s (A : Option Addr) (n c : Nat) : NoB (.slice A n c) := fun m e => by cases e
theorem noBL4 {a b c d : Value} (ha : NoB a) (hb : NoB b) (hc : NoB c) (hd : NoB d) : NoByte [a, b, c, d] := by
  intro x hx n e
  simp only [List.mem_cons, List.not_mem_nil, or_false] at hx
  rcases hx with rfl | rfl | rfl | rfl
  · exact ha n e
  · exact hb n e
  · exact hc n e
  · exact hd n e
theorem OwnL.poke4 {W : World} {base g : Nat} {T : TypeId} {v a b c d : Value} {ls : List Bs} (h : OwnL W base v ls) (hG : g < base) (hx : Box W g T [a, b, c, d]) (ha : NoB a) (hb : NoB b) (hc : NoB c) (hd : NoB d) (x0 x1 x2 x3 : Value) (h0 : NoB x0) (h1 : NoB x1) (h2 : NoB x2) :
    OwnL ((((W.setCell ⟨g, 0, none⟩ x0).setCell ⟨g, 1, none⟩ x1).setCell ⟨g, 2, none⟩ x2).setCell ⟨g, 3, none⟩ x3) base v ls := by
  have k0 := h.poke (j := 0) (v' := x0) hG hx (noBL4 ha hb hc hd)
  have y0 := hx.set 0 x0
  simp only [List.set_cons_zero] at y0
  have k1 := k0.poke (j := 1) (v' := x1) hG y0 (noBL4 h0 hb hc hd)
  have y1 := y0.set 1 x1
  simp only [List.set_cons_zero, List.set_cons_succ] at y1
  have k2 := k1.poke (j := 2) (v' := x2) hG y1 (noBL4 h0 h1 hc hd)
  have y2 := y1.set 2 x2
  simp only [List.set_cons_zero, List.set_cons_succ] at y2
  exact k2.poke (j := 3) (v' := x3) hG y2 (noBL4 h0 h1 h2 hd)
def ParseP (x : Option Sig) (w : World) (e : Ending) (w' : World) : Prop :=
  match x with
  | none => ParseNone w e w'
  | some s => ParseSome s w e w'
set_option maxRecDepth 100000 in
set_option maxHeartbeats 2000000 in
theorem parse_long (B : Nat) (u : Value) (l : Bs) (w : World) (hu : SeesB w B u l) (hB : B ≤ w.heap.size) (hl5 : 5 ≤ l.length) (hl : l.length ≤ 1048576) :
    Calls Tryz.prog 87 #[u] w (ParseP (partsG l) w) := by
  have hb0 := balloc w (.cells #[.int .i64 0, .int .i64 0, .slice none 0 0, .slice none 0 0] 123)
  have hx := Box.new w 123 [.int .i64 0, .int .i64 0, .slice none 0 0, .slice none 0 0]
  change Box (w.alloc (.cells #[.int .i64 0, .int .i64 0, .slice none 0 0, .slice none 0 0] 123)) _ _ _ at hx
  have hc := cut_yes B u l 5 (w.alloc (.cells #[.int .i64 0, .int .i64 0, .slice none 0 0, .slice none 0 0] 123)) (hu.below (hb0.mono hB)) (Nat.le_trans hB hb0.size) hl5 hl
  obtain ⟨A, c, rfl, -, -⟩ := hu.mk_
  replace hc := Lib.hid hc
  clear hu
  have hl1 : (l.take 5).length = 5 := by rw [List.length_take]; omega
  have hl2 : (l.drop 5).length = l.length - 5 := List.length_drop
  have hh0 : (l.take 5).getD 0 0 = l.getD 0 0 := by rw [List.getD_eq_getElem?_getD, List.getElem?_take, if_pos (by omega), ← List.getD_eq_getElem?_getD]
  have hi0 : (l.take 5).drop 1 = (l.drop 1).take 4 := by rw [List.drop_take]
  have hi4 : ((l.drop 1).take 4).length = 4 := by rw [List.length_take, List.length_drop]; omega
  have hidx := getB_lt4 _ hi4
  have hel : Hid (cutL 16 35 ((l.drop 5).take 560) = cutL 16 35 (l.drop 5)) := cutL_take 16 35 (l.drop 5)
  have hP : Hid (partsG l = if l.length < 565 then none
    else if 6 < (l.getD 0 0).toNat ∨ 2 ^ (l.getD 0 0).toNat ≤ getB ((l.drop 1).take 4) ∨ l.length ≠ 565 + 32 * (l.getD 0 0).toNat then none
    else some ⟨(l.getD 0 0).toNat, getB ((l.drop 1).take 4), cutL 16 35 (l.drop 5), cutL 32 (l.getD 0 0).toNat (l.drop 565)⟩) := rfl
  have hx0 := (l.getD 0 0).toNat_lt
  go_enter Tryz.func87, Tryz.ntmps87
  go_wp2_with fail
  refine hc.out.mono ?_
  rintro e w1 ⟨v1, v2, rfl, k1, k2, hb1⟩
  replace hx := hx.below hb1
  replace hb1 := bgo hb0 hb1
  clear hb0 hc
  obtain ⟨A1, c1, rfl, hc1, hc1'⟩ := k1.sees.mk_
  obtain ⟨A2, c2, rfl, -, -⟩ := k2.sees.mk_
  obtain ⟨b1, o1, rfl, hbB, hcell⟩ := k1.sees.at_ (by omega)
  have x0 := hcell 0 (by omega)
  rw [hh0, Nat.add_zero] at x0
  have s1 := SeesB.cut (a := 1) (b := 5) k1.sees (by omega) (by omega)
  rw [hi0, List.take_of_length_le (by omega)] at s1
  rw [hl1] at hc1 ⊢
  rw [hl2] at k2 ⊢
  have r1 : ∀ W, (Instr.slice 23 (.slice (some ⟨b1, o1, none⟩) 5 c1) (some (.int .i64 1)) none none).run Tryz.prog W = .ok (.slice (cutA (some ⟨b1, o1, none⟩) c1 1 1) 4 (c1 - 1)) W := fun W =>
    run_cut_from (P := Tryz.prog) 23 Tryz.underlying23 1 byte_size (some ⟨b1, o1, none⟩) 5 c1 .i64 1 (by omega) (by omega) W
  generalize cutA (some ⟨b1, o1, none⟩) c1 1 1 = A3 at *
  have hget : ∀ W : World, Below w1.heap.size w1 W → Calls Tryz.prog 85 #[.slice A3 4 (c1 - 1)] W fun e w' => e = .returned (.int .u64 (getB ((l.drop 1).take 4) : Int)) ∧ w' = W := fun W hW => get_any w1.heap.size _ _ W (s1.below hW)
  unfold byV at x0
  generalize (l.getD 0 0).toNat = h at *
  generalize getB ((l.drop 1).take 4) = ix at *
  replace hget := Lib.hid hget
  replace hb1 := Lib.hid hb1
  replace hx := Lib.hid hx
  replace k2 := Lib.hid k2
  have m1 : IntKind.i64.wrap (ix : Int) = (ix : Int) := by rw [IntKind.wrap_i64]; omega
  have m0 : IntKind.i64.wrap (h : Int) = (h : Int) := by rw [IntKind.wrap_i64]; omega
  clear s1 hcell k1 hh0 hi0 hi4 hl1 hl2
  dsimp only
  go_upto_region 4 with (fail)
  go_cut [7] (fun v W => v = .pointer (some ⟨w1.heap.size, 0, none⟩) ∧ Hid (Box W w1.heap.size 123 [.int .i64 (h : Int), .int .i64 (ix : Int), .slice none 0 0, .slice none 0 0]) ∧ Hid (Below w1.heap.size w1 W))
  case first =>
    go_region_held3 (fun W' : World => W'.cell? ⟨b1, o1, none⟩ = some (.int .u8 (h : Int)))
      (first | (go_keep; done))
      (first
        | (go_at_call 85; refine (hget.out _ (bdrew w1)).mono ?_; rintro e w' ⟨rfl, rfl⟩)
        | (go_at_call 85; refine (hget.out _ (by (repeat (first | exact Below.refl _ _ | (refine bgo ?_ (balloc _ _)) | (refine bgo ?_ (bdrew _)) | (refine bgo ?_ (by assumption)))))).mono ?_; rintro e w' ⟨rfl, rfl⟩))
    all_goals
      go_wp2_with fail
      go_meet
      exact ⟨rfl, Box.new w1 _ _, (balloc w1 _).drew⟩
  case rest =>
    obtain ⟨rfl, hx3, hb2⟩ := hcut
    obtain ⟨W2, rfl⟩ : ∃ W : World, W = wc := ⟨_, rfl⟩
    have hx2 := hx.out.below hb2.out
    have k22 := k2.out.below hb2.out
    have hg2 := hx.out.lt
    replace hb2 := Lib.hid (bgo hb1.out hb2.out)
    have hGw : w.heap.size ≤ w1.heap.size := hb1.out.size
    generalize w1.heap.size = G at *
    clear hx k2 hb1 hget x0 r1 m1 m0
    have c0 : W2.cell? ⟨G, 0, none⟩ = some (.int .i64 (h : Int)) := hx3.out.cell 0
    have c1' : W2.cell? ⟨G, 1, none⟩ = some (.int .i64 (ix : Int)) := hx3.out.cell 1
    obtain ⟨R, hR⟩ : ∃ R, R = l.length - 5 := ⟨_, rfl⟩
    rw [← hR] at k22 ⊢
    have hRl : R + 5 = l.length := by omega
    have hR0 := Lib.hid hR
    clear hR
    have m2 : IntKind.i64.wrap ((h : Int) * 32) = (h : Int) * 32 := by rw [IntKind.wrap_i64]; omega
    have m3 : IntKind.i64.wrap (560 + (h : Int) * 32) = 560 + (h : Int) * 32 := by rw [IntKind.wrap_i64]; omega
    by_cases hh : h ≤ 6
    · have hp := wrap_pow h hh
      have hp2 := wrap_pow2 h hh
      have hp64 := pow_le64 h hh
      by_cases hix : ix < 2 ^ h
      · by_cases hlen : l.length = 565 + 32 * h
        · have hn : partsG l = some ⟨h, ix, cutL 16 35 (l.drop 5), cutL 32 h (l.drop 565)⟩ := by
            rw [hP.out, if_neg (by omega), if_neg (by omega)]
          rw [← hel.out, show l.drop 565 = (l.drop 5).drop 560 by rw [List.drop_drop]] at hn
          have hRR : (l.drop 5).length = R := by rw [List.length_drop]; omega
          have hR560 : R = 560 + 32 * h := by omega
          clear hP hel
          generalize 2 ^ h = N at *
          generalize l.drop 5 = rs at *
          have hn := Lib.hid hn
          have i0 : decide ((N : Int) ≤ (ix : Int)) = false := by simp; omega
          have i1 : ((R : Int) != 560 + (h : Int) * 32) = false := by rw [bne_eq_false_iff_eq]; omega
          replace hRl := Lib.hid hRl
          replace hlen := Lib.hid hlen
          replace hR560 := Lib.hid hR560
          replace hRR := Lib.hid hRR
          go_wp2_with fail
          go_quiet ((go_at_call 103; exact Calls.quiet_of_same (tall_yes _ _ (by omega) (by omega))))
          go_wp2_with fail
          have hx2q : Box (W2.drewN nq) w.heap.size 123 _ := hx2
          have hx3q : Box (W2.drewN nq) G 123 _ := hx3.out
          have k22q : OwnB (W2.drewN nq) _ _ _ := k22
          have hb2q := below_drewN hb2.out nq
          clear c0 c1' hx2 hb2 hx3 k22
          generalize W2.drewN nq = W at *
          have hc2 := cut_yes W.heap.size (.slice A2 R c2) rs 560 W k22q.sees (Nat.le_refl _) (by rw [hRR.out, hR560.out]; omega) (by rw [hRR.out, hR560.out]; omega)
          refine hc2.mono ?_
          rintro e W3 ⟨v3, v4, rfl, k3, k4, hb3⟩
          have hl3 : (rs.take 560).length = 16 * 35 := by rw [List.length_take, hRR.out, hR560.out]; omega
          have hl4 : (rs.drop 560).length = 32 * h := by rw [List.length_drop, hRR.out, hR560.out]; omega
          replace hx2q := hx2q.below hb3
          replace hx3q := hx3q.below hb3
          replace hb3 := bgo hb2q hb3
          have hpp := Lib.hid (parts_any W3.heap.size v3 (rs.take 560) 16 35 W3 k3.sees (Nat.le_refl _) (by omega) (by omega) (by omega) hl3)
          have hp2' : Hid (∀ W4, Below W3.heap.size W3 W4 → Calls Tryz.prog 121 #[v4, .int .i64 32] W4 (GivesL (cutL 32 h (rs.drop 560)) W4)) := fun W4 h4 => parts_any W3.heap.size v4 (rs.drop 560) 32 h W4 (k4.sees.below h4) h4.size (by omega) (by omega) (by omega) hl4
          obtain ⟨A3', c3, rfl, -, -⟩ := k3.sees.mk_
          obtain ⟨A4, c4, rfl, -, -⟩ := k4.sees.mk_
          rw [hl3] at hpp ⊢
          rw [hl4] at hp2' ⊢
          have hE := cutL_len 16 35 (rs.take 560)
          have hPT := cutL_len 32 h (rs.drop 560)
          generalize cutL 16 35 (rs.take 560) = ES at *
          generalize cutL 32 h (rs.drop 560) = PS at *
          replace hE := Lib.hid hE
          replace hPT := Lib.hid hPT
          replace hx2q := Lib.hid hx2q
          replace hx3q := Lib.hid hx3q
          replace hb3 := Lib.hid hb3
          clear hc2 hb2q k22q k3 k4 hl3 hl4
          dsimp only
          go_wp2_with fail
          refine hpp.out.mono ?_
          rintro e W4 ⟨v5, rfl, k5, hb4⟩
          obtain ⟨A5, c5, rfl⟩ := k5.shape
          dsimp only
          go_wp2_with fail
          refine (hp2'.out W4 hb4).mono ?_
          rintro e W5 ⟨v6, rfl, k6, hb5⟩
          obtain ⟨A6, c6, rfl⟩ := k6.shape
          rw [hE.out] at k5 ⊢
          rw [hPT.out] at k6 ⊢
          have hG3 := hx3q.out.lt
          have hb35 := bgo hb4 hb5
          have y2 := hx2q.out.below hb35
          have y3 := hx3q.out.below hb35
          have k5' := k5.below hb5
          have k6' := k6.mono hb4.size
          replace hb5 := bgo hb3.out hb35
          have hwb : W3.heap.size ≤ W5.heap.size := hb35.size
          have q5 := k5'.poke (j := 2) (v' := .slice A5 35 c5) hG3 y3 (noBL4 (NoB.i _) (NoB.i _) (NoB.s _ _ _) (NoB.s _ _ _))
          have q6 := k6'.poke (j := 2) (v' := .slice A5 35 c5) hG3 y3 (noBL4 (NoB.i _) (NoB.i _) (NoB.s _ _ _) (NoB.s _ _ _))
          have p3 := y3.set 2 (.slice A5 35 c5)
          have p2 := y2.other (G := G) (j := 2) (v := .slice A5 35 c5) (by omega)
          simp only [List.set_cons_zero, List.set_cons_succ] at p3
          replace q5 := q5.poke (j := 3) (v' := .slice A6 h c6) hG3 p3 (noBL4 (NoB.i _) (NoB.i _) (NoB.s _ _ _) (NoB.s _ _ _))
          replace q6 := q6.poke (j := 3) (v' := .slice A6 h c6) hG3 p3 (noBL4 (NoB.i _) (NoB.i _) (NoB.s _ _ _) (NoB.s _ _ _))
          replace p3 := p3.set 3 (.slice A6 h c6)
          replace p2 := p2.other (G := G) (j := 3) (v := .slice A6 h c6) (by omega)
          simp only [List.set_cons_zero, List.set_cons_succ] at p3
          have pb := (hb5.setCell (p := ⟨G, 2, none⟩) hGw (.slice A5 35 c5)).setCell (p := ⟨G, 3, none⟩) hGw (.slice A6 h c6)
          have d2 : W5.cell? ⟨G, 2, none⟩ = some (.slice none 0 0) := y3.cell 2
          have d3 : W5.cell? ⟨G, 3, none⟩ = some (.slice none 0 0) := y3.cell 3
          have e2 := y3.frozen 2
          have e3 := y3.frozen 3
          replace q5 := Lib.hid q5
          replace q6 := Lib.hid q6
          replace p2 := Lib.hid p2
          replace p3 := Lib.hid p3
          replace pb := Lib.hid pb
          have hGs : G < W5.heap.size := Nat.lt_of_lt_of_le hG3 hwb
          clear hb4 hb35 k5 k6 k5' k6' hpp hp2' hx2q hx3q hb3 y2 y3 hb5
          dsimp only
          go_upto_region 9 with (fail)
          clear d2 d3 e2 e3
          generalize (W5.setCell ⟨G, 2, none⟩ (.slice A5 35 c5)).setCell ⟨G, 3, none⟩ (.slice A6 h c6) = W6 at *
          have d0 : W6.cell? ⟨G, 0, none⟩ = some (.int .i64 (h : Int)) := p3.out.cell 0
          have d1 : W6.cell? ⟨G, 1, none⟩ = some (.int .i64 (ix : Int)) := p3.out.cell 1
          have d2 : W6.cell? ⟨G, 2, none⟩ = some (.slice A5 35 c5) := p3.out.cell 2
          have d3 : W6.cell? ⟨G, 3, none⟩ = some (.slice A6 h c6) := p3.out.cell 3
          have z0 : W6.cell? ⟨w.heap.size, 0, none⟩ = some (.int .i64 0) := p2.out.cell 0
          have z1 : W6.cell? ⟨w.heap.size, 1, none⟩ = some (.int .i64 0) := p2.out.cell 1
          have z2 : W6.cell? ⟨w.heap.size, 2, none⟩ = some (.slice none 0 0) := p2.out.cell 2
          have z3 : W6.cell? ⟨w.heap.size, 3, none⟩ = some (.slice none 0 0) := p2.out.cell 3
          have f0 := p2.out.frozen 0
          have f1 := p2.out.frozen 1
          have f2 := p2.out.frozen 2
          have f3 := p2.out.frozen 3
          have hs3 : w.heap.size < W3.heap.size := by omega
          have kz := Lib.hid (zero_set4 p2.out (.int .i64 (h : Int)) (.int .i64 (ix : Int)) (.slice A5 35 c5) (.slice A6 h c6))
          have kb := Lib.hid (below_set4 pb.out (Nat.le_refl _) (.int .i64 (h : Int)) (.int .i64 (ix : Int)) (.slice A5 35 c5) (.slice A6 h c6))
          have t5 := Lib.hid (q5.out.poke4 hs3 p2.out (NoB.i _) (NoB.i _) (NoB.s _ _ _) (NoB.s _ _ _) (.int .i64 (h : Int)) (.int .i64 (ix : Int)) (.slice A5 35 c5) (.slice A6 h c6) (NoB.i _) (NoB.i _) (NoB.s _ _ _))
          have t6 := Lib.hid (q6.out.poke4 hs3 p2.out (NoB.i _) (NoB.i _) (NoB.s _ _ _) (NoB.s _ _ _) (.int .i64 (h : Int)) (.int .i64 (ix : Int)) (.slice A5 35 c5) (.slice A6 h c6) (NoB.i _) (NoB.i _) (NoB.s _ _ _))
          clear q5 q6 p2 p3 pb
          go_wp2_with fail
          clear z0 z1 z2 z3 f0 f1 f2 f3 d0 d1 d2 d3
          generalize (((W6.setCell ⟨w.heap.size, 0, none⟩ (.int .i64 (h : Int))).setCell ⟨w.heap.size, 1, none⟩ (.int .i64 (ix : Int))).setCell ⟨w.heap.size, 2, none⟩ (.slice A5 35 c5)).setCell ⟨w.heap.size, 3, none⟩ (.slice A6 h c6) = W7 at *
          have z0 : W7.cell? ⟨w.heap.size, 0, none⟩ = some (.int .i64 (h : Int)) := kz.out.cell 0
          have z1 : W7.cell? ⟨w.heap.size, 1, none⟩ = some (.int .i64 (ix : Int)) := kz.out.cell 1
          have z2 : W7.cell? ⟨w.heap.size, 2, none⟩ = some (.slice A5 35 c5) := kz.out.cell 2
          have z3 : W7.cell? ⟨w.heap.size, 3, none⟩ = some (.slice A6 h c6) := kz.out.cell 3
          refine bodyPost_ret (v := .tuple #[.agg #[.int .i64 (h : Int), .int .i64 (ix : Int), .slice A5 35 c5, .slice A6 h c6], .bool true]) (by simp [results, Tryz.results87, go_sem, z0, z1, z2, z3]) rfl ?_
          rw [hn.out]
          exact ⟨_, _, rfl, t5.out.mono (by omega), t6.out.mono (by omega), kb.out⟩
        · have hn : partsG l = none := by
            rw [hP.out]; split
            · rfl
            · rw [if_pos (.inr (.inr hlen))]
          clear hP hel
          generalize 2 ^ h = N at *
          have i0 : decide ((N : Int) ≤ (ix : Int)) = false := by simp; omega
          have i1 : ((R : Int) != 560 + (h : Int) * 32) = true := by rw [bne_iff_ne]; omega
          replace hRl := Lib.hid hRl
          replace hlen := Lib.hid hlen
          replace hn := Lib.hid hn
          go_wp2_with fail
          go_quiet ((go_at_call 103; exact Calls.quiet_of_same (tall_yes _ _ (by omega) (by omega))))
          have hx2q : Box (W2.drewN nq) w.heap.size 123 _ := hx2
          have hb2q := below_drewN hb2.out nq
          clear c0 c1' hx2 hb2 hx3 k22
          generalize W2.drewN nq = W at *
          have z0 : W.cell? ⟨w.heap.size, 0, none⟩ = some (.int .i64 0) := hx2q.cell 0
          have z1 : W.cell? ⟨w.heap.size, 1, none⟩ = some (.int .i64 0) := hx2q.cell 1
          have z2 : W.cell? ⟨w.heap.size, 2, none⟩ = some (.slice none 0 0) := hx2q.cell 2
          have z3 : W.cell? ⟨w.heap.size, 3, none⟩ = some (.slice none 0 0) := hx2q.cell 3
          have f0 := hx2q.frozen 0
          have f1 := hx2q.frozen 1
          have f2 := hx2q.frozen 2
          have f3 := hx2q.frozen 3
          have kz := Lib.hid (zero_set4 hx2q (.int .i64 0) (.int .i64 0) (.slice none 0 0) (.slice none 0 0))
          have kb := Lib.hid (below_set4 hb2q (Nat.le_refl _) (.int .i64 0) (.int .i64 0) (.slice none 0 0) (.slice none 0 0))
          clear hx2q hb2q
          go_wp2_with fail
          clear z0 z1 z2 z3 f0 f1 f2 f3
          generalize (((W.setCell ⟨w.heap.size, 0, none⟩ (.int .i64 0)).setCell ⟨w.heap.size, 1, none⟩ (.int .i64 0)).setCell ⟨w.heap.size, 2, none⟩ (.slice none 0 0)).setCell ⟨w.heap.size, 3, none⟩ (.slice none 0 0) = W3 at *
          have z0 : W3.cell? ⟨w.heap.size, 0, none⟩ = some (.int .i64 0) := kz.out.cell 0
          have z1 : W3.cell? ⟨w.heap.size, 1, none⟩ = some (.int .i64 0) := kz.out.cell 1
          have z2 : W3.cell? ⟨w.heap.size, 2, none⟩ = some (.slice none 0 0) := kz.out.cell 2
          have z3 : W3.cell? ⟨w.heap.size, 3, none⟩ = some (.slice none 0 0) := kz.out.cell 3
          refine bodyPost_ret (v := .tuple #[.agg #[.int .i64 0, .int .i64 0, .slice none 0 0, .slice none 0 0], .bool false]) (by simp [results, Tryz.results87, go_sem, z0, z1, z2, z3]) rfl ?_
          rw [hn.out]
          exact ⟨rfl, kb.out⟩
      · have hn : partsG l = none := by
          rw [hP.out]; split
          · rfl
          · rw [if_pos (.inr (.inl (by omega)))]
        clear hP hel
        generalize 2 ^ h = N at *
        have i0 : decide ((N : Int) ≤ (ix : Int)) = true := by simp; omega
        replace hRl := Lib.hid hRl
        replace hn := Lib.hid hn
        go_wp2_with fail
        go_quiet ((go_at_call 103; exact Calls.quiet_of_same (tall_yes _ _ (by omega) (by omega))))
        have hx2q : Box (W2.drewN nq) w.heap.size 123 _ := hx2
        have hb2q := below_drewN hb2.out nq
        clear c0 c1' hx2 hb2 hx3 k22
        generalize W2.drewN nq = W at *
        have z0 : W.cell? ⟨w.heap.size, 0, none⟩ = some (.int .i64 0) := hx2q.cell 0
        have z1 : W.cell? ⟨w.heap.size, 1, none⟩ = some (.int .i64 0) := hx2q.cell 1
        have z2 : W.cell? ⟨w.heap.size, 2, none⟩ = some (.slice none 0 0) := hx2q.cell 2
        have z3 : W.cell? ⟨w.heap.size, 3, none⟩ = some (.slice none 0 0) := hx2q.cell 3
        have f0 := hx2q.frozen 0
        have f1 := hx2q.frozen 1
        have f2 := hx2q.frozen 2
        have f3 := hx2q.frozen 3
        have kz := Lib.hid (zero_set4 hx2q (.int .i64 0) (.int .i64 0) (.slice none 0 0) (.slice none 0 0))
        have kb := Lib.hid (below_set4 hb2q (Nat.le_refl _) (.int .i64 0) (.int .i64 0) (.slice none 0 0) (.slice none 0 0))
        clear hx2q hb2q
        go_wp2_with fail
        clear z0 z1 z2 z3 f0 f1 f2 f3
        generalize (((W.setCell ⟨w.heap.size, 0, none⟩ (.int .i64 0)).setCell ⟨w.heap.size, 1, none⟩ (.int .i64 0)).setCell ⟨w.heap.size, 2, none⟩ (.slice none 0 0)).setCell ⟨w.heap.size, 3, none⟩ (.slice none 0 0) = W3 at *
        have z0 : W3.cell? ⟨w.heap.size, 0, none⟩ = some (.int .i64 0) := kz.out.cell 0
        have z1 : W3.cell? ⟨w.heap.size, 1, none⟩ = some (.int .i64 0) := kz.out.cell 1
        have z2 : W3.cell? ⟨w.heap.size, 2, none⟩ = some (.slice none 0 0) := kz.out.cell 2
        have z3 : W3.cell? ⟨w.heap.size, 3, none⟩ = some (.slice none 0 0) := kz.out.cell 3
        refine bodyPost_ret (v := .tuple #[.agg #[.int .i64 0, .int .i64 0, .slice none 0 0, .slice none 0 0], .bool false]) (by simp [results, Tryz.results87, go_sem, z0, z1, z2, z3]) rfl ?_
        rw [hn.out]
        exact ⟨rfl, kb.out⟩
    · have hn : partsG l = none := by
        rw [hP.out]; split
        · rfl
        · rw [if_pos (.inl (by omega))]
      clear hP hel
      replace hRl := Lib.hid hRl
      replace hn := Lib.hid hn
      go_wp2_with fail
      go_quiet ((go_at_call 103; exact Calls.quiet_of_same (tall_no _ _ (by omega))))
      have hx2q : Box (W2.drewN nq) w.heap.size 123 _ := hx2
      have hb2q := below_drewN hb2.out nq
      clear c0 c1' hx2 hb2 hx3 k22
      generalize W2.drewN nq = W at *
      have z0 : W.cell? ⟨w.heap.size, 0, none⟩ = some (.int .i64 0) := hx2q.cell 0
      have z1 : W.cell? ⟨w.heap.size, 1, none⟩ = some (.int .i64 0) := hx2q.cell 1
      have z2 : W.cell? ⟨w.heap.size, 2, none⟩ = some (.slice none 0 0) := hx2q.cell 2
      have z3 : W.cell? ⟨w.heap.size, 3, none⟩ = some (.slice none 0 0) := hx2q.cell 3
      have f0 := hx2q.frozen 0
      have f1 := hx2q.frozen 1
      have f2 := hx2q.frozen 2
      have f3 := hx2q.frozen 3
      have kz := Lib.hid (zero_set4 hx2q (.int .i64 0) (.int .i64 0) (.slice none 0 0) (.slice none 0 0))
      have kb := Lib.hid (below_set4 hb2q (Nat.le_refl _) (.int .i64 0) (.int .i64 0) (.slice none 0 0) (.slice none 0 0))
      clear hx2q hb2q
      go_wp2_with fail
      clear z0 z1 z2 z3 f0 f1 f2 f3
      generalize (((W.setCell ⟨w.heap.size, 0, none⟩ (.int .i64 0)).setCell ⟨w.heap.size, 1, none⟩ (.int .i64 0)).setCell ⟨w.heap.size, 2, none⟩ (.slice none 0 0)).setCell ⟨w.heap.size, 3, none⟩ (.slice none 0 0) = W3 at *
      have z0 : W3.cell? ⟨w.heap.size, 0, none⟩ = some (.int .i64 0) := kz.out.cell 0
      have z1 : W3.cell? ⟨w.heap.size, 1, none⟩ = some (.int .i64 0) := kz.out.cell 1
      have z2 : W3.cell? ⟨w.heap.size, 2, none⟩ = some (.slice none 0 0) := kz.out.cell 2
      have z3 : W3.cell? ⟨w.heap.size, 3, none⟩ = some (.slice none 0 0) := kz.out.cell 3
      refine bodyPost_ret (v := .tuple #[.agg #[.int .i64 0, .int .i64 0, .slice none 0 0, .slice none 0 0], .bool false]) (by simp [results, Tryz.results87, go_sem, z0, z1, z2, z3]) rfl ?_
      rw [hn.out]
      exact ⟨rfl, kb.out⟩
end
section
open Go.RowKit
set_option linter.unusedVariables false
attribute [local go_sem ↓] Go.wp_at_zero Go.wp_at_succ
theorem partsG_short (l : Bs) (h : l.length < 565) : partsG l = none := by rw [partsG, if_pos h]
theorem partsG_ok (l : Bs) (s : Sig) (h : partsG l = some s) : s.height ≤ 6 ∧ s.index < 2 ^ s.height ∧ s.elements.length = 35 ∧ (∀ x ∈ s.elements, x.length = 16) ∧ s.path.length = s.height ∧ (∀ x ∈ s.path, x.length = 32) := by
  unfold partsG at h
  split at h
  · cases h
  · split at h
    · cases h
    · rename_i h1 h2
      injection h with h
      subst h
      dsimp only
      have hd : (l.drop 5).length = l.length - 5 := List.length_drop
      refine ⟨by omega, by omega, cutL_len _ _ _, ?_, cutL_len _ _ _, ?_⟩
      · rw [← cutL_take]
        exact cutL_el 16 35 _ (by rw [List.length_take, hd]; omega)
      · exact cutL_el 32 _ _ (by rw [List.length_drop]; omega)
theorem parse_all (B : Nat) (u : Value) (l : Bs) (w : World) (hu : SeesB w B u l) (hB : B ≤ w.heap.size) (hl : l.length ≤ 1048576) : Calls Tryz.prog 87 #[u] w (ParseP (partsG l) w) := by
  by_cases h : 5 ≤ l.length
  · exact parse_long B u l w hu hB h hl
  · rw [partsG_short l (by omega)]; exact parse_short B u l w hu hB (by omega)
theorem checkI_in (root leaf : Bs) (n i : Nat) (p : List Bs) (hn : 1 ≤ n) (hn2 : n ≤ 1024) (hi : i < n) : checkI root (n : Int) (i : Int) leaf p = checkG root n i leaf p := by
  have hin : inI (n : Int) (i : Int) = true := by simp [inI]; omega
  unfold checkI climbI checkG
  rw [if_pos hin, Int.toNat_natCast, Int.toNat_natCast]
  cases h : climbG n i (leafH leaf) p with
  | none => rfl
  | some x =>
    obtain ⟨r, used⟩ := x
    dsimp only
    by_cases hu : used = p.length
    · simp [hu]
      rw [Bool.eq_iff_iff]; simp
    · simp [hu]
end
section
open Go.RowKit
set_option linter.unusedVariables false
attribute [local go_sem ↓] Go.wp_at_zero Go.wp_at_succ
set_option maxRecDepth 100000 in
set_option maxHeartbeats 2000000 in
theorem verify_any (B : Nat) (u u2 u3 : Value) (p m l : Bs) (w : World) (hu : SeesB w B u p) (hu2 : SeesB w B u2 m) (hu3 : SeesB w B u3 l) (hB : B ≤ w.heap.size) (hm : m.length ≤ 1048576) (hl : l.length ≤ 1048576) :
    Calls Tryz.prog 58 #[u, u2, u3] w (BoolPost (verifyG p m l) w) := by
  have hc := parse_all B u3 l w hu3 hB hl
  obtain ⟨A, c, rfl, -, -⟩ := hu.mk_
  obtain ⟨A2, c2, rfl, -, -⟩ := hu2.mk_
  obtain ⟨A3, c3, rfl, -, -⟩ := hu3.mk_
  clear hu3
  rcases hpt : partsG l with _ | s
  · have hv : Hid (verifyG p m l = false) := by show _ = _; rw [verifyG, hpt]
    rw [hpt] at hc
    replace hc : Hid (Calls _ _ _ _ (ParseNone w)) := hc
    clear hpt hu hu2
    go_enter Tryz.func58, Tryz.ntmps58
    go_wp2_with fail
    refine hc.out.mono ?_
    rintro e w1 ⟨rfl, hb1⟩
    dsimp only
    go_wp2_with fail
    go_ret
    exact ⟨ret_bool hv.out.symm, bgo hb1 (balloc _ _)⟩
  · obtain ⟨s1, s2, s3, s4, s5, s6⟩ := partsG_ok l s hpt
    rw [hpt] at hc
    replace hc : Hid (Calls _ _ _ _ (ParseSome s w)) := hc
    by_cases hp : p.length = 32
    · by_cases hm2 : m.length ≤ 65535
      · have hv : Hid (verifyG p m l = checkI p ((2 ^ s.height : Nat) : Int) (s.index : Int) (recG (digG p s.index m) s.elements) s.path) := by
          show _ = _
          have := pow_le64 s.height s1
          rw [checkI_in _ _ _ _ _ (by omega) (by omega) s2, verifyG, hpt]
          simp [hp, hm2]
        have hpw := wrap_pow s.height s1
        have hpw3 := wrap_pow2 s.height s1
        have hp64 := pow_le64 s.height s1
        have hix : s.index < 4294967296 := Nat.lt_of_lt_of_le s2 (Nat.le_trans hp64.2 (by omega))
        have hpl : p.length ≤ 1048576 := by omega
        have hdg := fun (W : World) (hW : Below w.heap.size w W) => digest_any B (.slice A p.length c) (.slice A2 m.length c2) p m s.index W (hu.below (hW.mono hB)) (hu2.below (hW.mono hB)) (Nat.le_trans hB hW.size) hpl hm hix
        clear hpl
        have hpw2 := fun (W : World) (hW : Below w.heap.size w W) => hu.below (hW.mono hB)
        rw [hp] at hdg hpw2 ⊢
        have i0 : ¬ ((65535 : Int) < (m.length : Int)) := by omega
        have hd16 : Hid ((digG p s.index m).length = 16) := short_len _
        generalize digG p s.index m = DG at *
        obtain ⟨h, i, es, ps⟩ := s
        dsimp only at *
        generalize 2 ^ h = N at *
        replace hdg := Lib.hid hdg
        replace hpw2 := Lib.hid hpw2
        replace s3 := Lib.hid s3
        replace s4 := Lib.hid s4
        replace s5 := Lib.hid s5
        replace s6 := Lib.hid s6
        clear hpt hp hu hu2
        go_enter Tryz.func58, Tryz.ntmps58
        go_wp2_with fail
        refine hc.out.mono ?_
        rintro e w1 ⟨v1, v2, rfl, h1, h2, hb1⟩
        obtain ⟨A4, c4, rfl⟩ := h1.shape
        obtain ⟨A5, c5, rfl⟩ := h2.shape
        have hal := balloc w1 (.cells #[.int .i64 (h : Int), .int .i64 (i : Int), .slice A4 es.length c4, .slice A5 ps.length c5] 123)
        have hx := Box.new w1 123 [.int .i64 (h : Int), .int .i64 (i : Int), .slice A4 es.length c4, .slice A5 ps.length c5]
        change Box (w1.alloc (.cells #[.int .i64 (h : Int), .int .i64 (i : Int), .slice A4 es.length c4, .slice A5 ps.length c5] 123)) _ _ _ at hx
        replace h1 := Lib.hid (h1.below hal)
        replace h2 := Lib.hid (h2.below hal)
        have hb2 := Lib.hid (bgo hb1 hal)
        dsimp only
        go_upto_region 4 with (fail)
        generalize w1.alloc (.cells #[.int .i64 (h : Int), .int .i64 (i : Int), .slice A4 es.length c4, .slice A5 ps.length c5] 123) = W2 at *
        generalize w1.heap.size = G at *
        have K : Hid (∀ W : World, Below W2.heap.size W2 W → W.cell? ⟨G, 0, none⟩ = some (.int .i64 (h : Int)) ∧ W.cell? ⟨G, 1, none⟩ = some (.int .i64 (i : Int)) ∧ W.cell? ⟨G, 2, none⟩ = some (.slice A4 es.length c4) ∧ W.cell? ⟨G, 3, none⟩ = some (.slice A5 ps.length c5)) :=
          fun W hW => ⟨(hx.below hW).cell 0, (hx.below hW).cell 1, (hx.below hW).cell 2, (hx.below hW).cell 3⟩
        obtain ⟨x0, x1, x2, x3⟩ := K.out W2 (Below.refl _ _)
        have hdg2 := Lib.hid (hdg.out W2.drew hb2.out.drew)
        have hrc : Hid (∀ W v, Below W2.heap.size W2 W → SeesB W W.heap.size v DG → Calls Tryz.prog 88 #[v, .slice A4 es.length c4] W (RecPost (recG DG es) W)) := fun W v hW hv => recover_any W.heap.size v (.slice A4 es.length c4) DG es W hv (h1.out.below hW).sees (Nat.le_refl _) hd16.out s3.out s4.out
        have hr16 : (recG DG es).length = 16 := short_len _
        have hck : Hid (∀ W v, Below W2.heap.size W2 W → SeesB W W.heap.size v (recG DG es) → Calls Tryz.prog 61 #[.slice A 32 c, .int .i64 (N : Int), .int .i64 (i : Int), v, .slice A5 ps.length c5] W (BoolPost (checkI p (N : Int) (i : Int) (recG DG es) ps) W)) := fun W v hW hv => check_any p (N : Int) (i : Int) (recG DG es) ps W.heap.size (.slice A 32 c) v (.slice A5 ps.length c5) W ((hpw2.out W (bgo hb2.out hW)).more (Nat.le_trans hB (bgo hb2.out hW).size)) hv (h2.out.below hW).sees (Nat.le_refl _) (by omega) (fun x hx => by rw [s6.out x hx]; omega)
        generalize recG DG es = RG at *
        replace hr16 := Lib.hid hr16
        clear hx hal hdg hpw2 h1 h2
        go_region_held3 (fun W' : World => W'.cell? ⟨G, 0, none⟩ = some (.int .i64 (h : Int)) ∧ W'.cell? ⟨G, 1, none⟩ = some (.int .i64 (i : Int)) ∧ W'.cell? ⟨G, 2, none⟩ = some (.slice A4 es.length c4) ∧ W'.cell? ⟨G, 3, none⟩ = some (.slice A5 ps.length c5))
          (first | exact K.out _ hb4 | exact K.out _ hb3 | (go_keep; done))
          (first
            | (go_at_call 88; refine (hrc.out _ _ hb3 k3).mono ?_; rintro e w4 ⟨v4, rfl, k4, hb4, -⟩
               obtain ⟨A7, c7, rfl, -, -⟩ := k4.mk_
               replace hb4 := bgo hb3 hb4)
            | (go_at_call 79; refine hdg2.out.mono ?_; rintro e w3 ⟨v3, rfl, k3, hb3, -⟩
               obtain ⟨A6, c6, rfl, -, -⟩ := k3.mk_
               replace hb3 := (bdrew W2).trans hb3))
        all_goals
          clear x0 x1 x2 x3
          obtain ⟨x0, x1, x2, x3⟩ := K.out w4 hb4
          have hck2 := Lib.hid (hck.out w4.drew _ (hb4.drew) k4)
          replace K : Hid (∀ W : World, Below w4.heap.size w4 W → W.cell? ⟨G, 0, none⟩ = some (.int .i64 (h : Int)) ∧ W.cell? ⟨G, 1, none⟩ = some (.int .i64 (i : Int)) ∧ W.cell? ⟨G, 2, none⟩ = some (.slice A4 es.length c4) ∧ W.cell? ⟨G, 3, none⟩ = some (.slice A5 ps.length c5)) := fun W hW => K.out W (bgo hb4 hW)
          replace hb4 := Lib.hid hb4
          clear hck hrc hdg2 k3 hb3 k4
          go_wp2_with fail
          go_region_held3 (fun W' : World => W'.cell? ⟨G, 0, none⟩ = some (.int .i64 (h : Int)) ∧ W'.cell? ⟨G, 1, none⟩ = some (.int .i64 (i : Int)) ∧ W'.cell? ⟨G, 2, none⟩ = some (.slice A4 es.length c4) ∧ W'.cell? ⟨G, 3, none⟩ = some (.slice A5 ps.length c5))
            (first | exact K.out _ ((bdrew w4).trans hb5) | (go_keep; done))
            (first
              | (go_at_call 61; refine hck2.out.mono ?_; rintro e w5 ⟨rfl, hb5⟩))
          all_goals
            go_wp2_with fail
            go_ret
            exact ⟨ret_bool hv.out.symm, bgo (bgo hb2.out hb4.out) ((bdrew w4).trans hb5)⟩
      · have hv : Hid (verifyG p m l = false) := by
          show _ = _
          rw [verifyG]; split <;> simp [hm2]
        have i0 : (65535 : Int) < (m.length : Int) := by omega
        rw [hp]
        clear hu hu2 hpt hp s2 s3 s4 s5 s6
        go_enter Tryz.func58, Tryz.ntmps58
        go_wp2_with fail
        refine hc.out.mono ?_
        rintro e w1 ⟨v1, v2, rfl, h1, h2, hb1⟩
        obtain ⟨A4, c4, rfl⟩ := h1.shape
        obtain ⟨A5, c5, rfl⟩ := h2.shape
        clear h1 h2
        dsimp only
        go_wp2_with fail
        go_ret
        exact ⟨ret_bool hv.out.symm, bgo hb1 (balloc _ _)⟩
    · have hv : Hid (verifyG p m l = false) := by
        show _ = _
        rw [verifyG]; split <;> simp [hp]
      have i0 : ((p.length : Int) != 32) = true := by rw [bne_iff_ne]; omega
      clear hu hu2 hpt s2 s3 s4 s5 s6
      go_enter Tryz.func58, Tryz.ntmps58
      go_wp2_with fail
      refine hc.out.mono ?_
      rintro e w1 ⟨v1, v2, rfl, h1, h2, hb1⟩
      obtain ⟨A4, c4, rfl⟩ := h1.shape
      obtain ⟨A5, c5, rfl⟩ := h2.shape
      clear h1 h2
      dsimp only
      go_wp2_with fail
      go_ret
      exact ⟨ret_bool hv.out.symm, bgo hb1 (balloc _ _)⟩
end
section
open Go.RowKit
set_option linter.unusedVariables false
attribute [local go_sem ↓] Go.wp_at_zero Go.wp_at_succ
def pubC (seed : Bs) (h : Int) : Int := if seed.length = 32 then (if 0 ≤ h ∧ h ≤ 6 then 0 else 4) else 5
def pubG (seed : Bs) (h : Int) : Bs := if seed.length = 32 ∧ 0 ≤ h ∧ h ≤ 6 then keyG seed h.toNat else []
theorem key_root (seed : Bs) (k : Nat) : rootG ((leavesL seed (2 ^ k)).map leafH) = keyG seed k := rfl
end
section
open Go.RowKit
set_option linter.unusedVariables false
/-- seed, height, next, signature, error -/
def signAll (seed : Bs) (h n : Int) (m : Bs) : Bs × Int × Int × Bs × Int :=
  if validI seed h n = true then
    if n = 2 ^ h.toNat then ([], 0, 0, [], 7)
    else (seed, h, n + 1, sigG seed h.toNat n.toNat m, 0)
  else ([], 0, 0, [], 3)
def SignPost (r : Bs × Int × Int × Bs × Int) (w : World) (e : Ending) (w' : World) : Prop :=
  ∃ v v2, e = .returned (.tuple #[.agg #[v, .int .i64 r.2.1, .int .i64 r.2.2.1], v2, .int .i64 r.2.2.2.2]) ∧ SeesB w' w'.heap.size v r.1 ∧ SeesB w' w'.heap.size v2 r.2.2.2.1 ∧ Below w.heap.size w w'
theorem signBad_post {c : Int} {w w' : World} {e : Ending} (h : SignBad c w e w') : SignPost ([], 0, 0, [], c) w e w' :=
  ⟨_, _, h.1, SeesB.nil _ _, SeesB.nil _ _, h.2⟩
theorem signOk_post {seed m : Bs} {h i : Nat} {w w' : World} {e : Ending} (hs : SignOk seed h i m w e w') : SignPost (seed, (h : Int), (i : Int) + 1, sigG seed h i m, 0) w e w' := by
  obtain ⟨v, v2, h1, h2, h3, h4⟩ := hs
  exact ⟨v, v2, by rw [h1]; simp, h2, h3, h4⟩
theorem sign_all (B : Nat) (u u2 : Value) (seed m : Bs) (h n : Int) (w : World) (hu : SeesB w B u seed) (hu2 : SeesB w B u2 m) (hB : B ≤ w.heap.size) (hm : m.length ≤ 65535) :
    Calls Tryz.prog 44 #[.agg #[u, .int .i64 h, .int .i64 n], u2] w (SignPost (signAll seed h n m) w) := by
  by_cases hv : validI seed h n = true
  · have hh : seed.length = 32 ∧ 0 ≤ h ∧ h ≤ 6 ∧ 0 ≤ n ∧ n ≤ 2 ^ h.toNat := by simp [validI] at hv; omega
    obtain ⟨hl, h0, h1, h2, h3⟩ := hh
    obtain ⟨k, rfl⟩ := Int.eq_ofNat_of_zero_le h0
    obtain ⟨i, rfl⟩ := Int.eq_ofNat_of_zero_le h2
    rw [Int.toNat_natCast] at h3
    have hpc : ((2 ^ k : Nat) : Int) = (2 : Int) ^ k := by simp
    by_cases hn : (i : Int) = 2 ^ k
    · have : signAll seed k i m = ([], 0, 0, [], 7) := by
        rw [signAll, if_pos hv, if_pos (by rw [Int.toNat_natCast]; exact hn)]
      rw [this, hn, ← hpc]
      exact (sign_bad7 B u u2 seed k w hu hB hl (by omega)).mono fun _ _ h => signBad_post h
    · have : signAll seed k i m = (seed, (k : Int), (i : Int) + 1, sigG seed k i m, 0) := by simp [signAll, hv, hn]
      rw [this]
      exact (sign_ok B u u2 seed m k i w hu hu2 hB hl (by omega) (by omega) hm).mono fun _ _ h => signOk_post h
  · have : signAll seed h n m = ([], 0, 0, [], 3) := by simp [signAll, hv]
    rw [this]
    exact (sign_bad3 B u u2 seed h n w hu hB (by simpa using hv)).mono fun _ _ h => signBad_post h
theorem rsign_all (B : Nat) (u u2 : Value) (seed m : Bs) (h n : Int) (w : World) (hu : SeesB w B u seed) (hu2 : SeesB w B u2 m) (hB : B ≤ w.heap.size) (hm : m.length ≤ 65535) :
    Calls Tryz.prog 30 #[.agg #[u, .int .i64 h, .int .i64 n], u2] w (SignPost (signAll seed h n m) w) := by
  by_cases hv : validI seed h n = true
  · have hh : seed.length = 32 ∧ 0 ≤ h ∧ h ≤ 6 ∧ 0 ≤ n ∧ n ≤ 2 ^ h.toNat := by simp [validI] at hv; omega
    obtain ⟨hl, h0, h1, h2, h3⟩ := hh
    obtain ⟨k, rfl⟩ := Int.eq_ofNat_of_zero_le h0
    obtain ⟨i, rfl⟩ := Int.eq_ofNat_of_zero_le h2
    rw [Int.toNat_natCast] at h3
    have hpc : ((2 ^ k : Nat) : Int) = (2 : Int) ^ k := by simp
    by_cases hn : (i : Int) = 2 ^ k
    · have : signAll seed k i m = ([], 0, 0, [], 7) := by
        rw [signAll, if_pos hv, if_pos (by rw [Int.toNat_natCast]; exact hn)]
      rw [this, hn, ← hpc]
      exact (rsign_bad7 B u u2 seed k w hu hB hl (by omega)).mono fun _ _ h => signBad_post h
    · have : signAll seed k i m = (seed, (k : Int), (i : Int) + 1, sigG seed k i m, 0) := by simp [signAll, hv, hn]
      rw [this]
      exact (rsign_ok B u u2 seed m k i w hu hu2 hB hl (by omega) (by omega) hm).mono fun _ _ h => signOk_post h
  · have : signAll seed h n m = ([], 0, 0, [], 3) := by simp [signAll, hv]
    rw [this]
    exact (rsign_bad3 B u u2 seed h n w hu hB (by simpa using hv)).mono fun _ _ h => signBad_post h
end
section
open Go.RowKit Go.WideShapes Go.ChangeShapes
section
variable {H : Type} {enc : TypeId × Value → H} {P : Program}
theorem post_of_below {f : Func} {s : ChangeSpec} {apart fresh handsOn again : Bool} {W W' : World} {args : Array Value} {v : Value} {ds gs : List (DataW H)} {before pa pv : List MemPlace}
    (hW : DataW.Whole enc P f.params.toList s.vars apart W args.toList ds gs before)
    (hres : ∀ (b : Nat) (sp : Nat → Bool) (hd : Bool), DataW.TrodAll enc P W' b sp hd f.resultTypes.toList (v.resultList f.resultTypes.size) (s.fn H (ds ++ gs)).results [])
    (hargs : ∀ sp : Nat → Bool, (∀ p ∈ before, sp p.block = true) → DataW.TrodAll enc P W' 0 sp true f.params.toList args.toList (s.fn H (ds ++ gs)).args pa)
    (hvars : ∀ sp : Nat → Bool, (∀ p ∈ before, sp p.block = true) → DataW.TrodVars enc P W' sp s.vars (s.fn H (ds ++ gs)).vars pv)
    (hps : before = pa ++ pv) (hb : Below W.heap.size W W')
    (hok : ∀ (j : Nat) (t : TypeId) (r : Value), f.resultTypes[j]? = some t → (v.resultList f.resultTypes.size)[j]? = some r → Value.okWide P W' .any 0 t r) :
    s.post enc P f apart fresh handsOn again W args v W' := by
  have hlt : ∀ p ∈ before, p.block < W.heap.size := fun p hp => hW.lt p hp
  have hold : ∀ p ∈ before, (fun b => decide (b < W.heap.size)) p.block = true := fun p hp => by simpa using hlt p hp
  refine ⟨ds, gs, before, [], pa, pv, hW, hres _ _ _, hargs _ hold, hvars _ hold, World.keptBut_mono (fun p hp => ⟨hp, ?_⟩) (hb.frame (· ∈ before)), fun _ => ?_⟩
  · rw [hps, List.mem_append] at hp
    exact Or.inr hp
  · obtain ⟨_, _, _, _, _, hz, hn⟩ := hW
    refine ⟨hok, _, _, ([] ++ pa) ++ pv, ⟨[] ++ pa, pv, trodAll_append (hargs _ (fun _ _ => rfl)) (hres _ _ _), hvars _ (fun _ _ => rfl), rfl, ?_, ?_⟩, ?_⟩
    · intro b off hp
      have hin : MemPlace.cell b off ∈ before := by rw [hps]; simpa using hp
      rw [hb.frozen (hlt _ hin)]
      exact hz b off hin
    · intro ha
      have := hn ha
      rw [hps] at this
      simpa using this
    · intro p hp _
      rw [hps]
      simpa using hp
end
end
section
open Go.RowKit
theorem mapM_keep {α β : Type} {f g : α → Option β} : ∀ {l : List α} {ys : List β}, l.mapM f = some ys → (∀ x y, x ∈ l → y ∈ ys → f x = some y → g x = some y) → l.mapM g = some ys
  | [], ys, h, _ => by simpa using h
  | x :: l, ys, h, hk => by
    rw [List.mapM_cons] at h ⊢
    cases h1 : f x with
    | none => rw [h1] at h; simp at h
    | some y =>
      cases h2 : l.mapM f with
      | none => rw [h1, h2] at h; simp at h
      | some zs =>
        rw [h1, h2] at h
        have h : y :: zs = ys := by simpa using h
        subst h
        rw [hk x y (by simp) (by simp) h1, mapM_keep h2 (fun x' y' hx hy he => hk x' y' (by simp [hx]) (by simp [hy]) he)]
        rfl
theorem cell_keep {W W' : World} (hb : Below W.heap.size W W') {a : Addr} {v : Value} (h : W.cell? a = some v) : W'.cell? a = some v := by
  have hlt : a.block < W.heap.size := by
    rcases Nat.lt_or_ge a.block W.heap.size with h1 | h1
    · exact h1
    · exfalso
      have h0 : W.heap[a.block]? = none := Array.getElem?_eq_none h1
      unfold World.cell? at h
      rw [h0] at h
      simp at h
  rw [hb.cell hlt]; exact h
theorem cells_keep {W W' : World} (hb : Below W.heap.size W W') {base n : Nat} {a : Addr} {vs : List Value} (h : W.cells? base a n = some vs) : W'.cells? base a n = some vs := by
  unfold World.cells? at h ⊢
  split at h
  · rw [if_pos (by assumption)]
    exact mapM_keep h (fun x y _ _ he => cell_keep hb he)
  · cases h
theorem mem_flat {α β : Type} {xs : List (α × List β)} {y : α × List β} {p : β} (hy : y ∈ xs) (hp : p ∈ y.2) : p ∈ xs.flatMap (·.2) := List.mem_flatMap.2 ⟨y, hy, hp⟩
theorem mapM_len {α β : Type} {f : α → Option β} : ∀ {l : List α} {ys : List β}, l.mapM f = some ys → ys.length = l.length
  | [], ys, h => by
    have : [] = ys := by simpa using h
    subst this; rfl
  | x :: l, ys, h => by
    rw [List.mapM_cons] at h
    cases h1 : f x with
    | none => rw [h1] at h; simp at h
    | some y =>
      cases h2 : l.mapM f with
      | none => rw [h1, h2] at h; simp at h
      | some zs =>
        rw [h1, h2] at h
        have h : y :: zs = ys := by simpa using h
        subst h
        simp [mapM_len h2]
section
variable {H : Type} {enc : TypeId × Value → H} {P : Program}
/-- Types of numbers, bools, strings, and of slices, structs, arrays of such. -/
def fine (P : Program) : Nat → TypeId → Bool
  | 0, _ => false
  | n + 1, t =>
    match P.underlying t with
    | some .bool => true
    | some (.int _) => true
    | some .string => true
    | some (.slice e) => decide (0 < P.cellsOf e) && fine P n e
    | some (.struct fs) => fs.toList.all fun f => fine P n f.type
    | some (.array _ e) => fine P n e
    | _ => false
theorem trod_keep {W W' : World} (hb : Below W.heap.size W W') (sp : Nat → Bool) :
    ∀ (n fuel : Nat) (t : TypeId) (cs : List Value) (x : DataW H × List MemPlace), fine P n t = true → DataW.trod enc P W 0 (fun _ => true) true fuel t cs = some x → (∀ p ∈ x.2, sp p.block = true) → DataW.trod enc P W' 0 sp true fuel t cs = some x
  | 0, _, _, _, _, hf, _, _ => by simp [fine] at hf
  | n + 1, 0, _, _, _, _, h, _ => by simp [DataW.trod] at h
  | n + 1, fuel + 1, t, cs, x, hf, h, hp => by
    have ih := trod_keep hb sp n fuel
    unfold DataW.trod at h ⊢
    unfold fine at hf
    split at h
    all_goals try exact h
    all_goals (rename_i hut; try (rw [hut] at hf; cases hf; done))
    · -- slice
      rename_i e a len cap
      rw [hut] at hf
      simp only [Bool.and_eq_true, decide_eq_true_eq] at hf
      simp only [] at h ⊢
      split at h
      · rename_i hif
        rw [if_pos hif]
        obtain ⟨ys, hys, h⟩ := Option.bind_eq_some_iff.1 h
        obtain ⟨rest, hrest, rfl⟩ := Option.map_eq_some_iff.1 h
        simp only [if_true] at hrest
        have hel : ∀ (i : Nat) (y : DataW H × List MemPlace), y ∈ ys ++ rest → ((W.cells? 0 (a.add (i * P.cellsOf e)) (P.cellsOf e)).bind (DataW.trod enc P W 0 (fun _ => true) true fuel e)) = some y →
            ((W'.cells? 0 (a.add (i * P.cellsOf e)) (P.cellsOf e)).bind (DataW.trod enc P W' 0 sp true fuel e)) = some y := by
          intro i y hy he
          obtain ⟨vs, hv, he⟩ := Option.bind_eq_some_iff.1 he
          rw [cells_keep hb hv, Option.bind_some]
          exact ih _ _ _ hf.2 he (fun p hp' => hp p (List.mem_append_right _ (mem_flat hy hp')))
        rw [mapM_keep hys (fun i y _ hy he => hel i y (List.mem_append_left _ hy) he), Option.bind_some]
        have l2 := mapM_len hrest
        rw [List.length_range] at l2
        by_cases h0 : cap - len = 0
        · rw [h0] at hrest ⊢
          have hr0 : rest = [] := by simpa using hrest.symm
          subst hr0
          simp
        · have hsp : sp a.block = true := by
            refine hp (.cell a.block (a.off + 0)) (List.mem_append_left _ (List.mem_map.2 ⟨0, List.mem_range.2 ?_, rfl⟩))
            exact Nat.mul_pos (by omega) hf.1
          rw [if_pos hsp, mapM_keep hrest (fun i y _ hy he => hel _ y (List.mem_append_right _ hy) he), Option.map_some]
      · cases h
    · -- struct
      rw [hut] at hf
      simp only [List.all_eq_true] at hf
      split at h
      · rename_i hif
        rw [if_pos hif]
        obtain ⟨xs, hxs, rfl⟩ := Option.map_eq_some_iff.1 h
        rw [mapM_keep hxs (fun f y hfm hy he => ih _ _ _ (hf f hfm) he (fun p hp' => hp p (mem_flat hy hp'))), Option.map_some]
      · cases h
    · -- array
      rw [hut] at hf
      split at h
      · rename_i hif
        rw [if_pos hif]
        obtain ⟨xs, hxs, rfl⟩ := Option.map_eq_some_iff.1 h
        rw [mapM_keep hxs (fun f y _ hy he => ih _ _ _ hf he (fun p hp' => hp p (mem_flat hy hp'))), Option.map_some]
      · cases h
theorem trodAll_keep (n : Nat) {W W' : World} (hb : Below W.heap.size W W') (sp : Nat → Bool) :
    ∀ {ts : List TypeId} {vs : List Value} {ds : List (DataW H)} {ps : List MemPlace}, (ts.all (fine P n) = true) → DataW.TrodAll enc P W 0 (fun _ => true) true ts vs ds ps → (∀ p ∈ ps, sp p.block = true) → DataW.TrodAll enc P W' 0 sp true ts vs ds ps
  | [], [], [], ps, _, h, _ => h
  | t :: ts, v :: vs, d :: ds, ps, hf, ⟨p, q, ⟨fuel, h1⟩, h2, hpq⟩, hp => by
    subst hpq
    simp only [List.all_cons, Bool.and_eq_true] at hf
    exact ⟨p, q, ⟨fuel, trod_keep hb sp n fuel t _ _ hf.1 h1 (fun x hx => hp x (List.mem_append_left _ hx))⟩, trodAll_keep n hb sp hf.2 h2 (fun x hx => hp x (List.mem_append_right _ hx)), rfl⟩
  | [], [], _ :: _, _, _, h, _ => h.elim
  | [], _ :: _, _, _, _, h, _ => h.elim
  | _ :: _, [], _, _, _, h, _ => h.elim
  | _ :: _, _ :: _, [], _, _, h, _ => h.elim
/-- What a call owes that writes to no old block, in a program without variables: its arguments read as they did. -/
theorem post_of_kept {f : Func} {s : ChangeSpec} {apart fresh handsOn again : Bool} {W W' : World} {args : Array Value} {v : Value} {ds gs : List (DataW H)} {before p : List MemPlace}
    (hfine : f.params.toList.all (fine P 8) = true)
    (hW : DataW.Whole enc P f.params.toList s.vars apart W args.toList ds gs before)
    (hA : DataW.TrodAll enc P W 0 (fun _ => true) true f.params.toList args.toList ds p) (hbef : before = p)
    (hvars0 : s.vars = []) (hfa : (s.fn H (ds ++ gs)).args = ds) (hfv : (s.fn H (ds ++ gs)).vars = [])
    (hres : ∀ (b : Nat) (sp : Nat → Bool) (hd : Bool), DataW.TrodAll enc P W' b sp hd f.resultTypes.toList (v.resultList f.resultTypes.size) (s.fn H (ds ++ gs)).results [])
    (hb : Below W.heap.size W W')
    (hok : ∀ (j : Nat) (t : TypeId) (r : Value), f.resultTypes[j]? = some t → (v.resultList f.resultTypes.size)[j]? = some r → Value.okWide P W' .any 0 t r) :
    s.post enc P f apart fresh handsOn again W args v W' := by
  subst hbef
  refine post_of_below (pa := before) (pv := []) hW hres (fun sp hsp => ?_) (fun sp _ => ?_) (by simp) hb hok
  · rw [hfa]; exact trodAll_keep 8 hb sp hfine hA hsp
  · rw [hvars0, hfv]; rfl
end
end
section
open Go.RowKit
set_option linter.unusedVariables false
/-- What a cell of a record holds: a plain value, or a slice that shows these bytes. -/
inductive Spec where
  | val (x : Value)
  | byt (l : Bs)
def FitS (w : World) (B : Nat) (u : Value) : Spec → Prop
  | .val x => u = x ∧ x.oneCell' = true
  | .byt l => SeesB w B u l
/-- A slice of n records of 'size' cells each, below block B. -/
def SeesR (w : World) (B : Nat) (v : Value) (size n : Nat) (ss : List Spec) : Prop :=
  ss.length = n * size ∧ ∃ vs : List Value, Sees w B v size n vs ∧ ∀ (k : Nat) (s : Spec), ss[k]? = some s → ∃ u, vs[k]? = some u ∧ FitS w B u s
def EltS (w : World) (v u : Value) : Spec → Prop
  | .val x => u = x ∧ x.oneCell' = true
  | .byt l => Elt w v u l
/-- The value is a row of the call's own; its elements are these records. -/
def OwnR (w : World) (base : Nat) (T : TypeId) (v : Value) (size n : Nat) (ss : List Spec) : Prop :=
  ss.length = n * size ∧ ∃ vs : List Value, w.ownsRow base T size v n vs ∧ ∀ (k : Nat) (s : Spec), ss[k]? = some s → ∃ u, vs[k]? = some u ∧ EltS w v u s
section
variable {w w' : World} {B B' base size n : Nat} {T : TypeId} {u v : Value} {s : Spec} {ss : List Spec}
theorem FitS.one (h : FitS w B u s) : u.oneCell' = true := by
  cases s with
  | val x => obtain ⟨rfl, h⟩ := h; exact h
  | byt l => obtain ⟨A, c, rfl, -, -⟩ := SeesB.mk_ h; rfl
theorem FitS.below (h : FitS w B u s) (hb : Below B w w') : FitS w' B u s := by
  cases s with
  | val x => exact h
  | byt l => exact SeesB.below h hb
theorem FitS.more (h : FitS w B u s) (hB : B ≤ B') : FitS w B' u s := by
  cases s with
  | val x => exact h
  | byt l => exact SeesB.more h hB
theorem EltS.fit (h : EltS w v u s) : FitS w w.heap.size u s := by
  cases s with
  | val x => exact h
  | byt l => exact h.1
theorem EltS.below (h : EltS w v u s) (hb : Below w.heap.size w w') : EltS w' v u s := by
  cases s with
  | val x => exact h
  | byt l => exact Elt.below h hb
theorem EltS.of_old (h : FitS w B u s) (hB : B ≤ w.heap.size) (hv : ∀ k, v.ownBlock = some k → B ≤ k) : EltS w v u s := by
  cases s with
  | val x => exact h
  | byt l => exact Elt.of_old h hB hv
theorem SeesR.len (h : SeesR w B v size n ss) : ss.length = n * size := h.1
theorem SeesR.mk_ (h : SeesR w B v size n ss) : ∃ A c, v = .slice A n c ∧ n ≤ c ∧ c ≤ maxLen := by
  obtain ⟨_, vs, h, _⟩ := h
  exact h.mk_
theorem SeesR.at_ {A : Option Addr} {c : Nat} (h : SeesR w B (.slice A n c) size n ss) (hn : 0 < n) :
    ∃ b o, A = some ⟨b, o, none⟩ ∧ b < B ∧ ∀ (k : Nat) (s : Spec), ss[k]? = some s → ∃ u, w.cell? ⟨b, o + k, none⟩ = some u ∧ FitS w B u s := by
  obtain ⟨_, vs, hs, hv⟩ := h
  obtain ⟨b, o, e, hb, hc⟩ := hs.at_ hn
  refine ⟨b, o, e, hb, fun k s hk => ?_⟩
  obtain ⟨u, hu1, hu2⟩ := hv k s hk
  exact ⟨u, hc k u hu1, hu2⟩
theorem SeesR.below (h : SeesR w B v size n ss) (hb : Below B w w') : SeesR w' B v size n ss := by
  obtain ⟨h0, vs, hs, hv⟩ := h
  refine ⟨h0, vs, hs.below hb, fun k s hk => ?_⟩
  obtain ⟨u, hu1, hu2⟩ := hv k s hk
  exact ⟨u, hu1, hu2.below hb⟩
theorem SeesR.more (h : SeesR w B v size n ss) (hB : B ≤ B') : SeesR w B' v size n ss := by
  obtain ⟨h0, vs, hs, hv⟩ := h
  refine ⟨h0, vs, hs.more hB, fun k s hk => ?_⟩
  obtain ⟨u, hu1, hu2⟩ := hv k s hk
  exact ⟨u, hu1, hu2.more hB⟩
theorem SeesR.nil (w : World) (B size : Nat) : SeesR w B (.slice none 0 0) size 0 [] := ⟨by simp, [], Sees.nil w B size, fun k s hk => by simp at hk⟩
theorem OwnR.nil (w : World) (base : Nat) (T : TypeId) (size : Nat) : OwnR w base T (.slice none 0 0) size 0 [] := ⟨by simp, [], World.ownsRow_nil w base T size, fun k s hk => by simp at hk⟩
theorem OwnR.sees (h : OwnR w base T v size n ss) : SeesR w w.heap.size v size n ss := by
  obtain ⟨h0, vs, h1, h2⟩ := h
  refine ⟨h0, vs, Sees.of_own h1, fun k s hk => ?_⟩
  obtain ⟨u, g1, g2⟩ := h2 k s hk
  exact ⟨u, g1, g2.fit⟩
theorem OwnR.lt (h : OwnR w base T v size n ss) : ∀ k, v.ownBlock = some k → base ≤ k ∧ k < w.heap.size := by
  obtain ⟨_, vs, h1, _⟩ := h
  exact h1.lt
theorem OwnR.below (h : OwnR w base T v size n ss) (hb : Below w.heap.size w w') : OwnR w' base T v size n ss := by
  obtain ⟨h0, vs, h1, h2⟩ := h
  refine ⟨h0, vs, own_below h1 hb, fun k s hk => ?_⟩
  obtain ⟨u, g1, g2⟩ := h2 k s hk
  exact ⟨u, g1, g2.below hb⟩
theorem OwnR.mono {base' : Nat} (h : OwnR w base T v size n ss) (hb : base' ≤ base) : OwnR w base' T v size n ss := by
  obtain ⟨h0, vs, h1, h2⟩ := h
  refine ⟨h0, vs, ⟨h1.1, ?_⟩, h2⟩
  rcases h1.2 with h | ⟨g, cap, cur, e1, e2, e3⟩
  · exact .inl h
  · exact .inr ⟨g, cap, cur, e1, by omega, e3⟩
theorem OwnR.from (h : OwnR w base T v size n ss) : From base v := by
  obtain ⟨_, vs, h1, _⟩ := h
  intro a n' c e
  rcases h1.2 with ⟨rfl, _⟩ | ⟨g, cap, cur, rfl, hb, _⟩
  · cases e
  · injection e with e1; injection e1 with e1; subst e1; exact hb
end
theorem below_ownR {w w' : World} {base size n : Nat} {T : TypeId} {v : Value} {ss : List Spec} (h : OwnR w base T v size n ss) (hg : w.grownBy w' v.ownBlock) (hb : base ≤ w.heap.size) : Below base w w' := by
  refine ⟨hg.os, hg.tape, hg.output, hg.size, fun k hk => hg.block k (by omega) (fun e => ?_)⟩
  have := (h.lt k e.symm).1
  omega
/-- append of records, the source whatever row is seen that does not lie where the target lies. -/
theorem wp_appR {o : Oper} {a : Act} {w : World} {K : Act → World → Prop} {Q : Exit → Act → World → Prop} (s x : Operand) (T E : TypeId) (hT : Tryz.prog.underlying T = some (.slice E))
    (ho : o.op = .call { callee := .builtin .append, args := #[s, x], argTypes := #[T, T] }) (i : TypeInfo) (z : Value) (size bytes : Nat) (hi : Tryz.prog.info? E = some i) (hz : i.zero = some z)
    (hsz : i.size = size) (hby : i.bytes = bytes) (hzs : z.cells.size = size) (h0 : 0 < size) (hby2 : bytes ≤ 1024)
    (base : Nat) (v : Value) (n : Nat) (ss : List Spec) (hs : a.eval s = v) (hown : OwnR w base E v size n ss) (B : Nat) (u : Value) (m : Nat) (vs : List Value) (ts : List Spec) (hx : a.eval x = u) (hr : Sees w B u size m vs)
    (htl : ts.length = m * size) (hel : ∀ (k : Nat) (t : Spec), ts[k]? = some t → ∃ y, vs[k]? = some y ∧ EltS w v y t)
    (hlen : n + m ≤ 1048576) (hbase : base ≤ w.heap.size)
    (h : ∀ v' w', OwnR w' base E v' size (n + m) (ss ++ ts) → Below base w w' → K (a.put o.dst v') w') : o.wp Tryz.prog a w K Q := by
  have hown' := hown
  obtain ⟨hl0, xs, h1, h2⟩ := hown
  have h1c : ∀ y ∈ vs, y.oneCell' = true := by
    intro y hy
    obtain ⟨k, hk⟩ := List.mem_iff_getElem?.1 hy
    have hkl : k < ts.length := by
      have := (List.getElem?_eq_some_iff.1 hk).1
      rw [hr.1] at this; omega
    obtain ⟨y', e1, e2⟩ := hel k _ (List.getElem?_eq_getElem hkl)
    rw [hk] at e1
    cases e1
    exact e2.fit.one
  refine wp_append_sees s x T ho base E i z size bytes hT hi hz hsz hby hzs h0 v n xs hs h1 B u m vs hx hr h1c (by unfold maxLen; omega) (Nat.le_trans (Nat.mul_le_mul hlen hby2) (by omega)) hbase ?_
  intro v' w' g1 g2 g3
  refine h v' w' ⟨by rw [List.length_append, hl0, htl, Nat.add_mul], xs ++ vs, g1, fun k t hk => ?_⟩ (below_ownR hown' g2 hbase)
  have hl1 : xs.length = ss.length := by rw [h1.1, hl0]
  have hst : ∀ {y : Value} {t : Spec}, EltS w v y t → EltS w' v' y t := fun {y t} hy => by
    cases t with
    | val x => exact hy
    | byt l => exact ⟨hy.grown g2, fun hm k hk => by
        rcases g3 with e | e
        · rw [e]; exact hy.2 hm k hk
        · rw [e]; intro e2; cases e2; exact absurd (hy.1.blk hm _ hk) (by omega)⟩
  by_cases hkl : k < ss.length
  · rw [List.getElem?_append_left hkl] at hk
    obtain ⟨y, e1, e2⟩ := h2 k t hk
    exact ⟨y, by rw [List.getElem?_append_left (by omega)]; exact e1, hst e2⟩
  · rw [List.getElem?_append_right (by omega)] at hk
    obtain ⟨y, e1, e2⟩ := hel (k - ss.length) t hk
    exact ⟨y, by rw [List.getElem?_append_right (by omega), hl1]; exact e1, hst e2⟩
theorem wpList_appR {ops : Array Oper} {rest : List Oper} {o : Oper} {a : Act} {w : World} {Q : Exit → Act → World → Prop} (hgd : Region.wanted o (yielded ops a.tmps) = true) (s x : Operand) (T E : TypeId) (hT : Tryz.prog.underlying T = some (.slice E))
    (ho : o.op = .call { callee := .builtin .append, args := #[s, x], argTypes := #[T, T] }) (i : TypeInfo) (z : Value) (size bytes : Nat) (hi : Tryz.prog.info? E = some i) (hz : i.zero = some z)
    (hsz : i.size = size) (hby : i.bytes = bytes) (hzs : z.cells.size = size) (h0 : 0 < size) (hby2 : bytes ≤ 1024)
    (base : Nat) (v : Value) (n : Nat) (ss : List Spec) (hs : a.eval s = v) (hown : OwnR w base E v size n ss) (B : Nat) (u : Value) (m : Nat) (vs : List Value) (ts : List Spec) (hx : a.eval x = u) (hr : Sees w B u size m vs)
    (htl : ts.length = m * size) (hel : ∀ (k : Nat) (t : Spec), ts[k]? = some t → ∃ y, vs[k]? = some y ∧ EltS w v y t)
    (hlen : n + m ≤ 1048576) (hbase : base ≤ w.heap.size)
    (h : ∀ v' w', OwnR w' base E v' size (n + m) (ss ++ ts) → Below base w w' → wpList Tryz.prog ops Q rest (a.put o.dst v') w') : wpList Tryz.prog ops Q (o :: rest) a w :=
  BigFrame.wpList_want hgd fun _ hK => wp_appR s x T E hT ho i z size bytes hi hz hsz hby hzs h0 hby2 base v n ss hs hown B u m vs ts hx hr htl hel hlen hbase fun v' w' h2 h3 => hK _ _ (h v' w' h2 h3)
/-- The same in a region that draws its order. -/
theorem step_appR {ops : Array Oper} {o : Oper} {a : Act} {w : World} {K : Act → World → Prop} {Q : Exit → Act → World → Prop} {X : Prop} (hgd : o.guard = none) (s x : Operand) (T E : TypeId) (hT : Tryz.prog.underlying T = some (.slice E))
    (ho : o.op = .call { callee := .builtin .append, args := #[s, x], argTypes := #[T, T] }) (i : TypeInfo) (z : Value) (size bytes : Nat) (hi : Tryz.prog.info? E = some i) (hz : i.zero = some z)
    (hsz : i.size = size) (hby : i.bytes = bytes) (hzs : z.cells.size = size) (h0 : 0 < size) (hby2 : bytes ≤ 1024)
    (base : Nat) (v : Value) (n : Nat) (ss : List Spec) (hs : a.eval s = v) (hown : OwnR w base E v size n ss) (B : Nat) (u : Value) (m : Nat) (vs : List Value) (ts : List Spec) (hx : a.eval x = u) (hr : Sees w B u size m vs)
    (htl : ts.length = m * size) (hel : ∀ (k : Nat) (t : Spec), ts[k]? = some t → ∃ y, vs[k]? = some y ∧ EltS w v y t)
    (hlen : n + m ≤ 1048576) (hbase : base ≤ w.heap.size)
    (h : ∀ v' w', OwnR w' base E v' size (n + m) (ss ++ ts) → Below base w w' → K (a.put o.dst v') w') : if Region.wanted o (yielded ops a.tmps) = true then Oper.wp Tryz.prog o a w K Q else X := by
  have hw : Region.wanted o (yielded ops a.tmps) = true := by simp [Region.wanted, hgd]
  rw [if_pos hw]
  exact wp_appR s x T E hT ho i z size bytes hi hz hsz hby hzs h0 hby2 base v n ss hs hown B u m vs ts hx hr htl hel hlen hbase h
/-- A literal of one record. -/
theorem rec_lit (W : World) (T : TypeId) (xs : List Value) : Sees (W.alloc (.cells xs.toArray T)) (W.heap.size + 1) (.slice (some ⟨W.heap.size, 0, none⟩) 1 1) xs.length 1 xs :=
  ⟨by omega, _, 1, rfl, Nat.le_refl _, by simp [maxLen], fun _ => ⟨W.heap.size, 0, rfl, by omega, fun j u hj => by have := (Box.new W T xs).cell j; rw [Nat.zero_add, this, hj]⟩⟩
theorem two_elt {w : World} {v x y : Value} {l : Bs} (h1 : x.oneCell' = true) (h2 : EltS w v y (.byt l)) : ∀ (k : Nat) (t : Spec), [Spec.val x, Spec.byt l][k]? = some t → ∃ z, [x, y][k]? = some z ∧ EltS w v z t := by
  intro k t hk
  rcases k with _ | _ | k
  · simp at hk; subst hk; exact ⟨x, rfl, rfl, h1⟩
  · simp at hk; subst hk; exact ⟨y, rfl, h2⟩
  · simp at hk
theorem EltS.of_from {w : World} {n : Nat} {u v : Value} {l : Bs} (h : SeesB w w.heap.size u l) (hf : From n u) (hv : ∀ k, v.ownBlock = some k → k < n) : EltS w v u (.byt l) := Elt.of_from h hf hv
end
section
set_option linter.unusedVariables false
def upB (x : UInt8) : Bool := (decide (65 ≤ x.toNat) && decide (x.toNat ≤ 90)) || (decide (48 ≤ x.toNat) && decide (x.toNat ≤ 57))
def namedG (s : Bs) : Bool := decide (s.length = 4) && s.all upB
/-- The first error of names and data, behind a name. -/
def checkT (last : Bs) : List (Bs × Bs) → Int
  | [] => 0
  | t :: r => if namedG t.1 = true then (if (Op.bytesLess t.1 last || t.1 == last) = true then 12 else if t.2.length % 4 = 0 then checkT t.1 r else 3) else 11
def namesT (ts : List (Bs × Bs)) : Bs := (ts.map (·.1)).flatten
def dataT (ts : List (Bs × Bs)) : Bs := (ts.map (·.2)).flatten
/-- The places of the data of tags 1 to k. -/
def placesT (ts : List (Bs × Bs)) : Nat → Bs
  | 0 => []
  | k + 1 => placesT ts k ++ putB 4 (dataT (ts.take (k + 1))).length
def bodyT (ts : List (Bs × Bs)) : Bs := putB 4 ts.length ++ placesT ts (ts.length - 1) ++ namesT ts ++ dataT ts
def placeN (b : Bs) (i : Nat) : Nat := getB ((b.drop (4 * i)).take 4)
/-- Where the data of tag i begin, but for the end. -/
def fromN (b : Bs) (i : Nat) : Nat := if i = 0 then 0 else placeN b i
/-- The first k places behind 0 are in order. -/
def placesOk (b : Bs) (size : Nat) : Nat → Bool
  | 0 => true
  | k + 1 => placesOk b size k && (decide (placeN b (k + 1) % 4 = 0) && decide (fromN b k ≤ placeN b (k + 1)) && decide (placeN b (k + 1) ≤ size))
def atN (b : Bs) (n size i : Nat) : Nat := if i < n then fromN b i else size
def tagN (b : Bs) (n i : Nat) : Bs × Bs :=
  ((b.drop (4 * (n + i))).take 4, ((b.drop (8 * n)).drop (atN b n (b.length - 8 * n) i)).take (atN b n (b.length - 8 * n) (i + 1) - atN b n (b.length - 8 * n) i))
def tagsN (b : Bs) (n : Nat) : List (Bs × Bs) := (List.range n).map (tagN b n)
def decC (b : Bs) : Int :=
  if 2048 < b.length then 2 else if b.length < 4 then 1 else
  if placeN b 0 < 1 ∨ 16 < placeN b 0 then 8 else if b.length < 8 * placeN b 0 then 1 else
  if placesOk b (b.length - 8 * placeN b 0) (placeN b 0 - 1) = true ∧ (b.length - 8 * placeN b 0) % 4 = 0 then checkT [] (tagsN b (placeN b 0)) else 3
def decT (b : Bs) : List (Bs × Bs) := if decC b = 0 then tagsN b (placeN b 0) else []
def encC (ts : List (Bs × Bs)) : Int :=
  if ts.length < 1 ∨ 16 < ts.length then 8 else if checkT [] ts = 0 then (if 2048 < (bodyT ts).length then 2 else 0) else checkT [] ts
def encT (ts : List (Bs × Bs)) : Bs := if encC ts = 0 then bodyT ts else []
theorem placesT_len (ts : List (Bs × Bs)) (k : Nat) : (placesT ts k).length = 4 * k := by
  induction k with
  | zero => rfl
  | succ k ih => rw [placesT, List.length_append, ih, putB_len]; omega
theorem take_one {α : Type} (ts : List α) (k : Nat) (t : α) (h : ts[k]? = some t) : ts.take (k + 1) = ts.take k ++ [t] := by
  rw [List.take_add_one, h]; rfl
theorem namesT_step (ts : List (Bs × Bs)) (k : Nat) (t : Bs × Bs) (h : ts[k]? = some t) : namesT (ts.take (k + 1)) = namesT (ts.take k) ++ t.1 := by
  rw [take_one ts k t h]; simp [namesT]
theorem dataT_step (ts : List (Bs × Bs)) (k : Nat) (t : Bs × Bs) (h : ts[k]? = some t) : dataT (ts.take (k + 1)) = dataT (ts.take k) ++ t.2 := by
  rw [take_one ts k t h]; simp [dataT]
theorem drop_one {α : Type} (ts : List α) (k : Nat) (t : α) (h : ts[k]? = some t) : ts.drop k = t :: ts.drop (k + 1) := by
  obtain ⟨hk, rfl⟩ := List.getElem?_eq_some_iff.1 h
  exact List.drop_eq_getElem_cons hk
theorem checkT_ok (ts : List (Bs × Bs)) : ∀ last, checkT last ts = 0 → ∀ t ∈ ts, t.1.length = 4 ∧ t.2.length % 4 = 0 := by
  induction ts with
  | nil => intro last h t ht; simp at ht
  | cons a r ih =>
    intro last h t ht
    rw [checkT] at h
    split at h
    · rename_i hn
      split at h
      · simp at h
      · split at h
        · rename_i h4
          rcases List.mem_cons.1 ht with rfl | ht
          · refine ⟨?_, h4⟩
            unfold namedG at hn
            simp at hn
            exact hn.1
          · exact ih _ h t ht
        · simp at h
    · simp at h
theorem namesT_len (ts : List (Bs × Bs)) (h : ∀ t ∈ ts, t.1.length = 4) : (namesT ts).length = 4 * ts.length := by
  induction ts with
  | nil => rfl
  | cons a r ih =>
    have h1 := h a (by simp)
    have h2 := ih (fun t ht => h t (by simp [ht]))
    simp only [namesT, List.map_cons, List.flatten_cons, List.length_append, List.length_cons] at *
    omega
theorem bodyT_len (ts : List (Bs × Bs)) (h : ∀ t ∈ ts, t.1.length = 4) (h1 : 1 ≤ ts.length) : (bodyT ts).length = 8 * ts.length + (dataT ts).length := by
  rw [bodyT, List.length_append, List.length_append, List.length_append, putB_len, placesT_len, namesT_len ts h]
  omega
theorem checkT_step (ts : List (Bs × Bs)) (k : Nat) (t : Bs × Bs) (last : Bs) (h : ts[k]? = some t) (hn : namedG t.1 = true) (ho : (Op.bytesLess t.1 last || t.1 == last) = false) (h4 : t.2.length % 4 = 0) :
    checkT last (ts.drop k) = checkT t.1 (ts.drop (k + 1)) := by
  rw [drop_one ts k t h, checkT, if_pos hn, ho, if_neg (by simp), if_pos h4]
theorem checkT_name (ts : List (Bs × Bs)) (k : Nat) (t : Bs × Bs) (last : Bs) (h : ts[k]? = some t) (hn : namedG t.1 = false) : checkT last (ts.drop k) = 11 := by
  rw [drop_one ts k t h, checkT, hn, if_neg (by simp)]
theorem checkT_order (ts : List (Bs × Bs)) (k : Nat) (t : Bs × Bs) (last : Bs) (h : ts[k]? = some t) (hn : namedG t.1 = true) (ho : (Op.bytesLess t.1 last || t.1 == last) = true) : checkT last (ts.drop k) = 12 := by
  rw [drop_one ts k t h, checkT, if_pos hn, if_pos ho]
theorem checkT_form (ts : List (Bs × Bs)) (k : Nat) (t : Bs × Bs) (last : Bs) (h : ts[k]? = some t) (hn : namedG t.1 = true) (ho : (Op.bytesLess t.1 last || t.1 == last) = false) (h4 : t.2.length % 4 ≠ 0) : checkT last (ts.drop k) = 3 := by
  rw [drop_one ts k t h, checkT, if_pos hn, ho, if_neg (by simp), if_neg h4]
/-- Tags as cells. -/
def tagS (ts : List (Bs × Bs)) : List Spec := ts.flatMap fun t => [.val (.string (strB t.1)), .byt t.2]
theorem tagS_len (ts : List (Bs × Bs)) : (tagS ts).length = ts.length * 2 := by
  induction ts with
  | nil => rfl
  | cons a r ih => simp only [tagS, List.flatMap_cons, List.length_append, List.length_cons, List.length_nil] at *; omega
theorem tagS_get (ts : List (Bs × Bs)) : ∀ (k : Nat) (t : Bs × Bs), ts[k]? = some t → (tagS ts)[2 * k]? = some (.val (.string (strB t.1))) ∧ (tagS ts)[2 * k + 1]? = some (.byt t.2) := by
  induction ts with
  | nil => intro k t h; simp at h
  | cons a r ih =>
    intro k t h
    cases k with
    | zero =>
      simp at h
      subst h
      exact ⟨rfl, rfl⟩
    | succ k =>
      rw [List.getElem?_cons_succ] at h
      obtain ⟨h1, h2⟩ := ih k t h
      rw [show 2 * (k + 1) = 2 * k + 2 from by omega, show 2 * k + 2 + 1 = 2 * k + 1 + 2 from by omega]
      exact ⟨h1, h2⟩
theorem tagS_append (a b : List (Bs × Bs)) : tagS (a ++ b) = tagS a ++ tagS b := by simp [tagS]
end
section
open Go.RowKit
set_option linter.unusedVariables false
/-- A rune that no name has. -/
def runeP (c : Nat) : Bool := (decide (c < 65) || decide (90 < c)) && (decide (c < 48) || decide (57 < c))
theorem strB_size (l : Bs) : (strB l).size = l.length := rfl
theorem runeP_up (x : UInt8) : runeP x.toNat = !(upB x) := by
  unfold runeP upB
  rw [Bool.eq_iff_iff]
  simp <;> omega
theorem runeP_high (c : Nat) (h : 128 ≤ c) : runeP c = true := by
  unfold runeP
  simp <;> omega
theorem upB_high (x : UInt8) (h : 128 ≤ x.toNat) : upB x = false := by
  unfold upB
  simp <;> omega
theorem idx_named (l : Bs) (n : Nat) : ∀ pos, l.length - pos ≤ n → pos ≤ l.length → decide (0 ≤ Lib.idxFuncFrom runeP true (strB l) n pos) = !((l.drop pos).all upB) := by
  induction n with
  | zero =>
    intro pos h1 h2
    have : pos = l.length := by omega
    subst this
    simp [Lib.idxFuncFrom]
  | succ n ih =>
    intro pos h1 h2
    rw [Lib.idxFuncFrom]
    by_cases hp : pos < l.length
    · rw [if_pos (by rw [strB_size]; exact hp), List.drop_eq_getElem_cons hp, List.all_cons]
      by_cases hb : l[pos].toNat < 128
      · rw [decode_ascii (strB l) pos hp hb]
        have hr := runeP_up l[pos]
        have h9 : (strB l)[pos]'hp = l[pos] := rfl
        rw [h9]
        dsimp only
        rw [hr]
        cases hu : upB l[pos] with
        | true =>
          rw [if_neg (by simp)]
          have := ih (pos + 1) (by omega) (by omega)
          rw [this]; simp
        | false => simp
      · have hd := decode_high (strB l) pos hp (by show 128 ≤ l[pos].toNat; omega)
        rw [runeP_high _ hd.1, upB_high _ (by omega), if_pos rfl]
        simp
    · have : pos = l.length := by omega
      subst this
      rw [if_neg (by rw [strB_size]; omega)]
      simp
theorem named_idx (l : Bs) (h : l.length = 4) : (!decide (0 ≤ Lib.idxFunc runeP true (strB l))) = namedG l := by
  unfold Lib.idxFunc namedG
  rw [idx_named l _ 0 (by rw [strB_size]; omega) (by omega)]
  simp [h]
end
section
open Go.RowKit
set_option linter.unusedVariables false
attribute [local go_sem ↓] Go.wp_at_zero Go.wp_at_succ
theorem runeP_pays (w : World) : PredAt Tryz.prog 119 #[] encR runeP w := fun W r _ => by
  unfold FnGives
  by_cases h1 : r < 65 <;> by_cases h2 : 90 < r <;> by_cases h3 : r < 48 <;> by_cases h4 : 57 < r
  all_goals try (exfalso; omega)
  all_goals
    have z1 : (r : Int) < 65 ↔ r < 65 := by omega
    have z2 : (90 : Int) < (r : Int) ↔ 90 < r := by omega
    have z3 : (r : Int) < 48 ↔ r < 48 := by omega
    have z4 : (57 : Int) < (r : Int) ↔ 57 < r := by omega
    go_enter Tryz.func119, Tryz.ntmps119
    go_wp2
    all_goals first | (exfalso; omega) | (go_ret; exact ⟨by simp [runeP, h1, h2, h3, h4], 0, rfl⟩)
theorem named_any (s : Bs) (w : World) : Calls Tryz.prog 86 #[.string (strB s)] w (BoolPost (namedG s) w) := by
  have hsz := strB_size s
  by_cases h : s.length = 4
  · have hid := named_idx s h
    have hC := Lib.hid (Tryz.strings_ContainsFunc 119 #[] (enters_of Tryz.func119 (by kernel_rfl) rfl) runeP (strB s) w (runeP_pays w))
    generalize namedG s = V at *
    generalize decide (0 ≤ Lib.idxFunc runeP true (strB s)) = D at *
    rw [h] at hsz
    generalize strB s = S at *
    replace hid := Lib.hid hid
    clear h
    go_enter Tryz.func86, Tryz.ntmps86
    go_wp2_with fail
    refine hC.out.mono ?_
    rintro e w1 ⟨rfl, hb1⟩
    dsimp only
    go_wp2_with fail
    go_ret
    exact ⟨ret_bool hid.out, hb1⟩
  · have hv : Hid (namedG s = false) := by show _ = _; simp [namedG, h]
    have h2 : ¬ ((strB s).size = 4) := by rw [hsz]; exact h
    have h3 : ¬ (((strB s).size : Int) = 4) := by omega
    clear hsz h
    generalize namedG s = V at *
    generalize strB s = S at *
    go_enter Tryz.func86, Tryz.ntmps86
    go_wp2_with fail
    go_ret
    exact ⟨ret_bool hv.out.symm, Below.refl _ _⟩
end
end Go.Proofs.YtamdgjgommejjaaGreat

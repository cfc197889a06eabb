/- Contracts of slices.Grow at nil, slices.Concat and slices.Insert at the head, for rows of lists of bytes. Conditions: those of each theorem. Contract of slices.Insert at the head, for a row of lists of bytes of the call's own and one list. Conditions: the row has 1 to 200 elements; the list does not lie in it. Contracts of (signer.head).begin and of signer.digest and its reference. Conditions: those of each theorem. Contract of (signer.signature).bytes: the bytes of a signature. Conditions: at most 100 elements and hashes, of at most 2^20 bytes. Contracts of signer.tall, Valid, Left and of sectimeref09.Valid, Left. Conditions: that the seed is seen. -/
import Derived.Test.YtkefbjpdpcmpnaaGreatTower8
import Derived.Lib.AppendZeros
import Derived.Lib.Overlaps
import Derived.BigQuiet
namespace Go.Proofs.YtkefbjpdpcmpnaaGreat
open Go.RowKit
set_option linter.unusedVariables false
attribute [local go_sem ↓] Go.wp_at_zero Go.wp_at_succ
theorem slice_sizeMap : (Tryz.prog.info? 23).map (·.size) = some 1 := by kernel_rfl
/-- copy into a row that is known whole: only this row's block is turned. -/
theorem wp_copyG {o : Oper} {a : Act} {w : World} {K : Act → World → Prop} {Q : Exit → Act → World → Prop} (d s : Operand) (T : TypeId)
    (ho : o.op = .call { callee := .builtin .copy, args := #[d, s], argTypes := #[T, T] }) (E : TypeId) (hu : Tryz.prog.underlying T = some (.slice E)) (hsz : (Tryz.prog.info? E).map (·.size) = some 1)
    (g off dLen dCap : Nat) (ad : Addr) (sLen sCap : Nat) (hd : a.eval d = .slice (some ⟨g, off, none⟩) dLen dCap) (hs : a.eval s = .slice (some ad) sLen sCap)
    (cur : List Value) (t : TypeId) (hg : w.heap[g]? = some (.cells cur.toArray t (0, 0))) (cs : List Value) (hn : cs.length = Nat.min sLen dLen)
    (hsrc : ∀ j v, cs[j]? = some v → w.cell? (ad.add j) = some v) (hfit : off + cs.length ≤ cur.length) (h1 : ∀ v ∈ cs, v.oneCell' = true)
    (h : ∀ w', Hid (w'.heap[g]? = some (.cells (splice cur off cs).toArray t (0, 0))) → w.grownBy w' (some g) → K (a.put o.dst (goInt cs.length)) w') : o.wp Tryz.prog a w K Q := by
  have hrun := run_copy_row (P := Tryz.prog) w T T o.type E g off dLen dCap ad sLen sCap cur.toArray t cs hu hsz hg hn hsrc (by simpa using hfit) h1
  unfold Oper.wp
  simp [execOp, ho, resolve, invoke, builtin, hd, hs, hrun, Result.andThen]
  refine h _ (show _ = _ by simpa [splice] using setRow_heap w g _ _ t _ hg) ⟨rfl, rfl, rfl, by simp [World.setRow], fun k hk hne => setRow_other w g k _ (fun e => hne (by rw [e]))⟩
theorem wpList_copyG {ops : Array Oper} {rest : List Oper} {o : Oper} {a : Act} {w : World} {Q : Exit → Act → World → Prop} (hgd : o.guard = none) (d s : Operand) (T : TypeId)
    (ho : o.op = .call { callee := .builtin .copy, args := #[d, s], argTypes := #[T, T] }) (E : TypeId) (hu : Tryz.prog.underlying T = some (.slice E)) (hsz : (Tryz.prog.info? E).map (·.size) = some 1)
    (g off dLen dCap : Nat) (ad : Addr) (sLen sCap : Nat) (hd : a.eval d = .slice (some ⟨g, off, none⟩) dLen dCap) (hs : a.eval s = .slice (some ad) sLen sCap)
    (cur : List Value) (t : TypeId) (hg : w.heap[g]? = some (.cells cur.toArray t (0, 0))) (cs : List Value) (hn : cs.length = Nat.min sLen dLen)
    (hsrc : ∀ j v, cs[j]? = some v → w.cell? (ad.add j) = some v) (hfit : off + cs.length ≤ cur.length) (h1 : ∀ v ∈ cs, v.oneCell' = true)
    (h : ∀ w', Hid (w'.heap[g]? = some (.cells (splice cur off cs).toArray t (0, 0))) → w.grownBy w' (some g) → wpList Tryz.prog ops Q rest (a.put o.dst (goInt cs.length)) w') : wpList Tryz.prog ops Q (o :: rest) a w :=
  wpList_plain hgd fun _ hK => wp_copyG d s T ho E hu hsz g off dLen dCap ad sLen sCap hd hs cur t hg cs hn hsrc hfit h1 fun w' h2 h3 => hK _ _ (h w' h2 h3)
theorem step_copyG {ops : Array Oper} {o : Oper} {a : Act} {w : World} {K : Act → World → Prop} {Q : Exit → Act → World → Prop} {F : Prop} (hgd : o.guard = none) (d s : Operand) (T : TypeId)
    (ho : o.op = .call { callee := .builtin .copy, args := #[d, s], argTypes := #[T, T] }) (E : TypeId) (hu : Tryz.prog.underlying T = some (.slice E)) (hsz : (Tryz.prog.info? E).map (·.size) = some 1)
    (g off dLen dCap : Nat) (ad : Addr) (sLen sCap : Nat) (hd : a.eval d = .slice (some ⟨g, off, none⟩) dLen dCap) (hs : a.eval s = .slice (some ad) sLen sCap)
    (cur : List Value) (t : TypeId) (hg : w.heap[g]? = some (.cells cur.toArray t (0, 0))) (cs : List Value) (hn : cs.length = Nat.min sLen dLen)
    (hsrc : ∀ j v, cs[j]? = some v → w.cell? (ad.add j) = some v) (hfit : off + cs.length ≤ cur.length) (h1 : ∀ v ∈ cs, v.oneCell' = true)
    (h : ∀ w', Hid (w'.heap[g]? = some (.cells (splice cur off cs).toArray t (0, 0))) → w.grownBy w' (some g) → K (a.put o.dst (goInt cs.length)) w') :
    if Region.wanted o (yielded ops a.tmps) = true then Oper.wp Tryz.prog o a w K Q else F := by
  have hw : Region.wanted o (yielded ops a.tmps) = true := by simp [Region.wanted, hgd]
  rw [if_pos hw]
  exact wp_copyG d s T ho E hu hsz g off dLen dCap ad sLen sCap hd hs cur t hg cs hn hsrc hfit h1 h
theorem zeroL_size (n : Nat) : (Builtin.zeroCells (Value.slice none 0 0).cells n).size = n := by simp [Builtin.zeroCells, Value.cells]
set_option maxRecDepth 100000 in
theorem growL_any (n : Nat) (hn : n ≤ 1099511627776) (w : World) :
    Calls Tryz.prog 222 #[.slice none 0 0, .int .i64 (n : Int)] w (GivesL [] w) := by
  obtain ⟨i, hi, hz, hs, hb⟩ := info_parts slice_info
  have n0 : ¬ ((n : Int) < 0) := by omega
  go_enter Tryz.func222, Tryz.ntmps222
  by_cases h0 : n = 0
  · subst h0
    go_wp2_with fail
    go_ret
    exact ⟨_, rfl, OwnL.nil _ _, Below.refl _ _⟩
  · have h1 : (0 : Int) < (n : Int) := by omega
    have hr := Lib.run_append_nil_zeros (P := Tryz.prog) w 22 3 22 23 i (.slice none 0 0) .i64 .i64 Tryz.underlying22 Tryz.underlying3 hi hz n (by omega) (by omega) (by omega) (by rw [hb]; omega)
    go_wp2_with (at_builtin; refine Lib.wpList_append_run _ rfl _ _ _ _ rfl _ _ rfl rfl _ _ hr ?_)
    go_ret
    refine ⟨.slice (some ⟨w.heap.size, 0, none⟩) 0 (grownCap w n 0 23), rfl, ?_, ((Below.refl _ _).alloc (Nat.le_refl _) _).drew⟩
    have hg := grownCap_ge w n 0 23
    refine ⟨[], (World.ownsRow_made (base := w.heap.size) (e := 23) (size := 1) w _ (grownCap w n 0 23) (Nat.le_refl _) (grownCap_le_maxLen w n 0 23 (by unfold maxLen; omega)) (by
      have h1 := zeroL_size n
      have h2 := zeroL_size (grownCap w n 0 23 - n)
      rw [Array.size_append]
      simp only [Value.cells] at h1 h2 ⊢
      omega)).drew, fun k hk => absurd hk (by simp)⟩
/-- The value shows these rows of lists. -/
def SeesLL (w : World) (B : Nat) (u : Value) (lss : List (List Bs)) : Prop := ∃ vs : List Value, Sees w B u 1 lss.length vs ∧ ∀ k, k < lss.length → ∃ v, vs[k]? = some v ∧ SeesL w B v (lss.getD k [])
theorem SeesLL.mk_ {w : World} {B : Nat} {u : Value} {ls : List (List Bs)} (h : SeesLL w B u ls) : ∃ A c, u = .slice A ls.length c ∧ ls.length ≤ c ∧ c ≤ maxLen := by
  obtain ⟨vs, h, _⟩ := h
  exact h.mk_
theorem SeesLL.at_ {w : World} {B : Nat} {A : Option Addr} {n c : Nat} {ls : List (List Bs)} (h : SeesLL w B (.slice A n c) ls) (hn : 0 < ls.length) :
    ∃ b o, A = some ⟨b, o, none⟩ ∧ b < B ∧ ∀ k, k < ls.length → ∃ A' c', w.cell? ⟨b, o + k, none⟩ = some (.slice A' (ls.getD k []).length c') ∧ (ls.getD k []).length ≤ c' ∧ c' ≤ maxLen ∧ SeesL w B (.slice A' (ls.getD k []).length c') (ls.getD k []) := by
  obtain ⟨vs, hs, hv⟩ := h
  obtain ⟨_, A', c', e, h1, h2, h3⟩ := hs
  injection e with e1 e2 e3
  subst e1 e2 e3
  obtain ⟨b, o, e, hb, hc⟩ := h3 hn
  refine ⟨b, o, e, hb, fun k hk => ?_⟩
  obtain ⟨v, hv1, hv2⟩ := hv k hk
  obtain ⟨A2, c2, rfl, g1, g2⟩ := hv2.mk_
  exact ⟨A2, c2, hc k _ hv1, g1, g2, hv2⟩
theorem flatL_step (ls : List (List Bs)) (k : Nat) (h : k < ls.length) : (ls.take (k + 1)).flatten = (ls.take k).flatten ++ ls.getD k [] := by
  rw [List.take_succ_eq_append_getElem h, List.flatten_append, List.getD_eq_getElem?_getD, List.getElem?_eq_getElem h]
  simp
theorem flatL_le (ls : List (List Bs)) (k : Nat) : (ls.take k).flatten.length ≤ ls.flatten.length := by
  conv => rhs; rw [← List.take_append_drop k ls, List.flatten_append, List.length_append]
  omega
def sumLL (ls : List (List Bs)) (k : Nat) : Nat := (ls.take k).flatten.length
theorem sumLL_step (ls : List (List Bs)) (k : Nat) (h : k < ls.length) : sumLL ls (k + 1) = sumLL ls k + (ls.getD k []).length := by
  rw [sumLL, flatL_step ls k h, List.length_append]; rfl
theorem elts_of_sees {w : World} {B : Nat} {u v : Value} {ls : List Bs} (h : SeesL w B u ls) (hB : B ≤ w.heap.size) (hv : ∀ k, v.ownBlock = some k → B ≤ k) :
    ∃ vs : List Value, Sees w B u 1 ls.length vs ∧ ∀ k, k < ls.length → ∃ y, vs[k]? = some y ∧ Elt w v y (ls.getD k []) := by
  obtain ⟨vs, h1, h2⟩ := h
  exact ⟨vs, h1, fun k hk => by obtain ⟨y, e1, e2⟩ := h2 k hk; exact ⟨y, e1, Elt.of_old e2 hB hv⟩⟩
set_option maxRecDepth 100000 in
theorem concatL_any (B : Nat) (u : Value) (ls : List (List Bs)) (w : World) (hu : SeesLL w B u ls) (hu2 : ∀ W, Below B w W → SeesLL W B u ls) (hB : B ≤ w.heap.size) (hlen : ls.flatten.length ≤ 1048576) :
    Calls Tryz.prog 205 #[u] w (GivesL ls.flatten w) := by
  obtain ⟨A, c, rfl, hc1, hc2⟩ := hu.mk_
  have hm : ls.length ≤ 9223372036854775807 := by unfold maxLen at hc2; omega
  replace hu2 := Lib.hid hu2
  go_enter Tryz.func205, Tryz.ntmps205
  go_wp2_with fail
  go_loopw [3, 5, 11] (fun s _ t wr => ∃ k : Nat, k ≤ ls.length ∧ s = .int .i64 (sumLL ls k : Int) ∧ t = .int .i64 k ∧ wr = w) (fun _ _ t _ => ls.length - (intOf t).toNat)
  case atStart => exact ⟨0, by omega, rfl, rfl, rfl⟩
  case round =>
    obtain ⟨k, hk, rfl, rfl, rfl⟩ := hrel
    by_cases hlt : k < ls.length
    · obtain ⟨b, o, rfl, hb, hcell⟩ := hu.at_ (by omega)
      obtain ⟨A', c', hc, g1, g2, hsee⟩ := hcell k hlt
      have hst := Lib.hid (sumLL_step ls k hlt)
      have hle := flatL_le ls (k + 1)
      have hd : (ls.take (k + 1)).flatten.length = sumLL ls (k + 1) := rfl
      rw [hd, hst.out] at hle
      generalize sumLL ls k = s at *
      generalize ls.getD k [] = m at *
      clear hcell hu hsee hd
      have i0 : (0 : Int) ≤ (k : Int) := by omega
      have i1 : (k : Int) < (ls.length : Int) := by omega
      have i2 : ¬ ((s : Int) + (m.length : Int) < 0) := by omega
      go_wp2_with fail
      go_roundw
      case rel => exact ⟨k + 1, by omega, by rw [hst.out]; rfl, by go_num, trivial⟩
      case measure => simp [intOf]; omega
    · obtain ⟨s, hs⟩ : ∃ s, sumLL ls k = s := ⟨_, rfl⟩
      have hs2 : s ≤ 1048576 := by rw [← hs]; exact Nat.le_trans (flatL_le ls k) hlen
      rw [hs]
      have hB' := Lib.hid hB
      clear hu hB
      go_wp2_with (go_at_call 222; refine (growL_any s (by omega) _).mono ?_; rintro e w' ⟨v, rfl, hW, hbw⟩)
      have hW := Lib.hid hW
      have hbw := Lib.hid hbw
      rename_i kk _ _
      obtain ⟨w, rfl⟩ : ∃ w0 : World, w0 = wr := ⟨_, rfl⟩
      go_loopw [6, 8, 27] (fun r _ t wr => ∃ k : Nat, k ≤ ls.length ∧ t = .int .i64 k ∧ Hid (OwnL wr w.heap.size r (ls.take k).flatten) ∧ Hid (Below w.heap.size w wr)) (fun _ _ t _ => ls.length - (intOf t).toNat)
      case atStart => exact ⟨0, by omega, rfl, hW, hbw⟩
      case round =>
        clear hW hbw
        obtain ⟨k, hk, rfl, hW, hbw⟩ := hrel
        by_cases hlt : k < ls.length
        · obtain ⟨b, o, rfl, hb, hcell⟩ := (hu2.out _ (hbw.out.mono hB'.out)).at_ (by omega)
          obtain ⟨A', c', x0, g1, g2, hsee⟩ := hcell k hlt
          obtain ⟨vs, hs1, hs2'⟩ := elts_of_sees (v := _) hsee (Nat.le_trans hB'.out hbw.out.size) (fun k hk => Nat.le_trans hB'.out (hW.out.lt k hk).1)
          replace hs1 := Lib.hid hs1
          replace hs2' := Lib.hid hs2'
          have hst := Lib.hid (flatL_step ls k hlt)
          have hle := flatL_le ls (k + 1)
          rw [hst.out, List.length_append] at hle
          generalize ls.getD k [] = m at *
          clear hcell hsee
          have i0 : (0 : Int) ≤ (k : Int) := by omega
          have i1 : (k : Int) < (ls.length : Int) := by omega
          go_wp2_with (at_builtin; refine wpList_appE (by rfl) _ _ 22 Tryz.underlying22 rfl w.heap.size _ _ rfl hW.out B _ m vs rfl hs1.out hs2'.out (by omega) hbw.out.size ?_)
          intro v' w' hW2 hb2
          have hW2 := Lib.hid hW2
          have hb2 := Lib.hid hb2
          go_wp2_with fail
          go_roundw
          case rel => exact ⟨k + 1, by omega, by go_num, by rw [hst.out]; exact hW2.out, hbw.out.trans hb2.out⟩
          case measure => simp [intOf]; omega
        · have he : (ls.take k).flatten = ls.flatten := by rw [List.take_of_length_le (by omega)]
          rw [he] at hW
          go_wp2_with fail
          go_ret
          exact ⟨_, rfl, hW.out, hbw.out⟩
end Go.Proofs.YtkefbjpdpcmpnaaGreat
namespace Go.Proofs.YtkefbjpdpcmpnaaGreat
open Go.RowKit
set_option linter.unusedVariables false
attribute [local go_sem ↓] Go.wp_at_zero Go.wp_at_succ
theorem own_cons {w w' : World} {base g n c : Nat} {y : Value} {x : Bs} {ls : List Bs} {vs rest : List Value} (hg : w.grownBy w' (some g)) (hh : w'.heap[g]? = some (.cells (y :: vs ++ rest).toArray 23 (0, 0)))
    (hn : n = ls.length + 1) (hc : (y :: vs ++ rest).length = c) (hcm : c ≤ maxLen) (hv : vs.length = ls.length) (hb : base ≤ g) (A : Value) (hA : A.ownBlock = some g)
    (hx : Elt w A y x) (hel : ∀ k, k < ls.length → ∃ u, vs[k]? = some u ∧ Elt w A u (ls.getD k [])) :
    OwnL w' base (.slice (some ⟨g, 0, none⟩) n c) (x :: ls) := by
  subst hn
  have hst : ∀ {u : Value} {m : Bs}, Elt w A u m → Elt w' (.slice (some ⟨g, 0, none⟩) (ls.length + 1) c) u m := fun {u m} hu => ⟨hu.grown (by rw [hA]; exact hg), fun hm k hk => by
    have := hu.2 hm k hk
    rw [hA] at this
    exact this⟩
  refine ⟨y :: vs, ⟨by simp [hv], .inr ⟨g, c, (y :: vs ++ rest).toArray, rfl, hb, hh, ?_, hcm, by rw [List.size_toArray, hc, Nat.mul_one], ?_⟩⟩, fun k hk => ?_⟩
  · rw [← hc]; simp only [List.cons_append, List.length_cons, List.length_append]; omega
  · rw [Nat.mul_one, List.take_append_of_le_length (by simp [hv]), List.take_of_length_le (by simp [hv])]
  · cases k with
    | zero => exact ⟨y, rfl, hst hx⟩
    | succ k =>
      obtain ⟨u, e1, e2⟩ := hel k (by simpa using hk)
      exact ⟨u, by simpa using e1, by simpa using hst e2⟩
theorem run_append_cut_zeros {P : Program} (w : World) (t tn ty e : TypeId) (i : TypeInfo) (z : Value) (k kn : IntKind) (ht : P.underlying t = some (.slice e)) (htn : P.underlying tn = some (.int kn)) (hi : P.info? e = some i) (hz : i.zero = some z)
    (a : Addr) (c n : Nat) (h0 : c < n) (hs : i.size = 1) (hn : n ≤ 1000) (hb : i.bytes ≤ 1000) (hc : n ≤ 2 * c) (hc2 : c < 256) :
    (Builtin.append_ #[t, tn] ty #[.slice (some a) 0 c, .int k n]).run P w =
      .ok (.slice (some ⟨w.heap.size, 0, none⟩) n (grownCap w n c e)) (w.drew.alloc (.cells (Builtin.zeroCells z.cells n ++ Builtin.zeroCells z.cells (grownCap w n c e - n)) e)) := by
  have hn0 : n ≠ 0 := by omega
  have hw : IntKind.i64.wrap (n : Int) = n := by rw [IntKind.wrap_i64]; omega
  have h63' : ¬ (9223372036854775807 < (n : Int)) := by omega
  have hcap : Builtin.nextslicecap n c = 2 * c := by unfold Builtin.nextslicecap; rw [if_neg (by omega), if_pos hc2]
  have h48' : ¬ (281474976710656 < 2 * c * i.bytes) := by
    have : 2 * c * i.bytes ≤ 512 * 1000 := Nat.mul_le_mul (by omega) hb
    omega
  have h48i : ¬ (281474976710656 < (n : Int) * (i.bytes : Int)) := by
    have : n * i.bytes ≤ 1000 * 1000 := Nat.mul_le_mul hn hb
    have : ((n * i.bytes : Nat) : Int) ≤ 1000000 := by omega
    rw [Int.natCast_mul] at this
    omega
  have hneg : ¬ ((n : Int) < 0) := by omega
  have hnc : ¬ (n ≤ c) := by omega
  have hf := run_firstCells_some (P := P) w.drew 1 0 a 0 c [] rfl (by simp)
  simp [Builtin.append_, run_underlying ht, run_underlying htn, sizeOf, typeInfo, zeroValue, hi, hz, hs, asInt, asIntOf, hw, hn0, hneg, h63', hcap, h48', h48i, hnc, Question.forced, hf, newRow, grownCap]
theorem call_overlaps (args : Array Value) (w : World) : (callFunc 220 args).run Tryz.prog w = ((Extern.SlicesOverlaps.overlaps #[22, 22] #[4] args).run Tryz.prog w).andThen fun v w' => .ok (.value v) w' :=
  run_callFunc_extern Tryz.func220 (by kernel_rfl) (by kernel_rfl) (by kernel_rfl) (by kernel_rfl) args w
def InsPost (base : Nat) (ls : List Bs) (w : World) (e : Ending) (w' : World) : Prop := ∃ v, e = .returned v ∧ OwnL w' base v ls ∧ Below base w w'
theorem splice_head (cur vs : List Value) (y : Value) (n : Nat) (h : cur.take n = vs) (hn : n + 1 ≤ cur.length) : splice (splice cur 1 vs) 0 [y] = y :: vs ++ cur.drop (n + 1) := by
  subst h
  have hl : (cur.take n).length = n := by rw [List.length_take]; omega
  match cur, hn with
  | a :: cur, hn =>
    simp [splice, hl, Nat.add_comm]
theorem splice_head2 (Z vs : List Value) (y : Value) (n : Nat) (h : vs.length = n) (hn : n + 1 ≤ Z.length) : splice (splice Z 0 [y]) 1 vs = y :: vs ++ Z.drop (n + 1) := by
  subst h
  match Z, hn with
  | a :: Z, hn => simp [splice, Nat.add_comm]
theorem wp_val {P : Program} {code : Code} {Q : Exit → Act → World → Prop} {a : Act} {w : World} (R : World → Prop) (h1 : R w) (h2 : R w → Code.wp P code Q a w) : Code.wp P code Q a w := h2 h1
set_option maxRecDepth 100000 in
theorem insert_any (base g gb n c : Nat) (y : Value) (x : Bs) (ls : List Bs) (w : World) (hown : OwnL w base (.slice (some ⟨g, 0, none⟩) n c) ls) (hn1 : 1 ≤ ls.length) (hn2 : ls.length ≤ 200) (hbx : Box w gb 23 [y]) (hne : gb ≠ g) (hx : Elt w (.slice (some ⟨g, 0, none⟩) n c) y x) (hbase : base ≤ w.heap.size) :
    Calls Tryz.prog 204 #[.slice (some ⟨g, 0, none⟩) n c, .int .i64 0, .slice (some ⟨gb, 0, none⟩) 1 1] w (InsPost base (x :: ls) w) := by
  have hlt := hown.lt g rfl
  obtain ⟨vs, hrow, hel⟩ := hown
  have hvl : vs.length = ls.length := by rw [hrow.1, Nat.mul_one]
  have hroom : ∃ cur : List Value, w.heap[g]? = some (.cells cur.toArray 23 (0, 0)) ∧ n = ls.length ∧ n ≤ c ∧ c ≤ maxLen ∧ cur.length = c ∧ cur.take n = vs := by
    rcases hrow.2 with ⟨e, _⟩ | ⟨g', c', cur, e, _, h1, h2, h3, h4, h5⟩
    · cases e
    · injection e with e1 e2 e3
      injection e1 with e1
      injection e1 with e1
      subst e1 e3 e2
      exact ⟨cur.toList, by simpa using h1, rfl, h2, h3, by simpa using h4, by simpa using h5⟩
  obtain ⟨cur, hg, rfl, hnc, hcm, hcl, htk⟩ := hroom
  have hvs1 : ∀ v ∈ vs, v.oneCell' = true := by
    intro v hv
    obtain ⟨k, hk⟩ := List.mem_iff_getElem?.1 hv
    obtain ⟨u, e1, e2⟩ := hel k (by have := (List.getElem?_eq_some_iff.1 hk).1; omega)
    rw [hk] at e1
    cases e1
    obtain ⟨A, c', rfl, -, -⟩ := e2.1.mk_
    rfl
  have hy1 : y.oneCell' = true := by
    obtain ⟨A, c', rfl, -, -⟩ := hx.1.mk_
    rfl
  have r0 : ∀ W, (Instr.slice 22 (.slice (some ⟨g, 0, none⟩) ls.length c) (some (.int .i64 0)) none none).run Tryz.prog W = .ok (.slice (some ⟨g, 0, none⟩) ls.length c) W := fun W => by
    have := run_cut_from (P := Tryz.prog) 22 Tryz.underlying22 1 slice_size (some ⟨g, 0, none⟩) ls.length c .i64 0 (by omega) (by omega) W
    rw [show (0 : Int).toNat = 0 from rfl, cutA_zero] at this
    exact this
  have j0 : ((0 : Int) == (ls.length : Int)) = false := by rw [beq_eq_false_iff_ne]; omega
  have hm : (ls.length : Int) ≤ 200 := by omega
  replace hrow := Lib.hid hrow
  replace hel := Lib.hid hel
  by_cases hfit : ls.length + 1 ≤ c
  · have j1 : ¬ ((c : Int) < (ls.length : Int) + 1) := by omega
    have r1 : ∀ W, (Instr.slice 22 (.slice (some ⟨g, 0, none⟩) ls.length c) none (some (.int .i64 ((ls.length : Int) + 1))) none).run Tryz.prog W = .ok (.slice (some ⟨g, 0, none⟩) (ls.length + 1) c) W := fun W => by
      have := run_cut_to (P := Tryz.prog) 22 Tryz.underlying22 1 slice_size (some ⟨g, 0, none⟩) ls.length c .i64 ((ls.length : Int) + 1) (by omega) (by omega) W
      rw [cutA_zero, show ((ls.length : Int) + 1).toNat = ls.length + 1 from by omega] at this
      exact this
    have r2 : ∀ W, (Instr.slice 22 (.slice (some ⟨g, 0, none⟩) (ls.length + 1) c) (some (.int .i64 1)) none none).run Tryz.prog W = .ok (.slice (some ⟨g, 1, none⟩) ls.length (c - 1)) W := fun W => by
      have := run_cut_from (P := Tryz.prog) 22 Tryz.underlying22 1 slice_size (some ⟨g, 0, none⟩) (ls.length + 1) c .i64 1 (by omega) (by omega) W
      rw [show (1 : Int).toNat = 1 from rfl, cutA, if_neg (by omega), Option.map_some, add_zero'] at this
      exact this
    have r3 : ∀ W, (Instr.slice 22 (.slice (some ⟨g, 0, none⟩) (ls.length + 1) c) (some (.int .i64 0)) none none).run Tryz.prog W = .ok (.slice (some ⟨g, 0, none⟩) (ls.length + 1) c) W := fun W => by
      have := run_cut_from (P := Tryz.prog) 22 Tryz.underlying22 1 slice_size (some ⟨g, 0, none⟩) (ls.length + 1) c .i64 0 (by omega) (by omega) W
      rw [show (0 : Int).toNat = 0 from rfl, cutA_zero] at this
      exact this
    have hov : (callFunc 220 #[.slice (some ⟨gb, 0, none⟩) 1 1, .slice (some ⟨g, 1, none⟩) ls.length (c - 1)]).run Tryz.prog w = .ok (.value (.bool false)) w := by
      rw [call_overlaps, Lib.run_overlaps_apart w 22 4 23 Tryz.underlying22 1 slice_size ⟨gb, 0, none⟩ ⟨g, 1, none⟩ 1 1 ls.length (c - 1) hne 23 23 1 c
        (by have : w.heap[gb]? = _ := hbx; simp [World.shape?, this]) (by simp [World.shape?, hg, hcl]) (by omega) (hbx.frozen 0) (hbx.frozen 1)]
      rfl
    replace hov := hov
    have hsz : (splice cur 1 vs).length = c := by rw [length_splice _ _ _ (by omega), hcl]
    have hspl := Lib.hid (splice_head cur vs y ls.length htk (by omega))
    have hy0 : w.cell? ⟨gb, 0, none⟩ = some y := hbx.cell 0
    have hvc : ∀ j v, vs[j]? = some v → w.cell? ((⟨g, 0, none⟩ : Addr).add j) = some v := fun j v hj => by
      rw [add_zero', Nat.zero_add, block_cell hg, ← hj, ← htk, List.getElem?_take, if_pos (by have := (List.getElem?_eq_some_iff.1 hj).1; omega)]
    replace hg := Lib.hid hg
    replace hvl := Lib.hid hvl
    replace hvc := Lib.hid hvc
    replace htk := Lib.hid htk
    replace hy0 := Lib.hid hy0
    replace hcl := Lib.hid hcl
    replace hsz := Lib.hid hsz
    clear hbx
    go_enter Tryz.func204, Tryz.ntmps204
    have m1 : IntKind.i64.wrap 1 = 1 := by decide +kernel
    have m2 : (1 : Int) ≤ (ls.length : Int) + 1 := by omega
    have hmin : Hid (vs.length = Nat.min (ls.length + 1) ls.length) := by show _ = _; rw [hvl.out]; exact (Nat.min_eq_right (by omega)).symm
    have hmin2 : Hid ([y].length = Nat.min 1 (ls.length + 1)) := by show _ = _; simp
    go_wp2_with fail
    go_region_held3 (fun W' : World => True) (trivial)
      ((refine step_copyG (by rfl) (.tmp 73) (.tmp 76) 22 (by rfl) 23 Tryz.underlying22 slice_sizeMap g 1 ls.length (c - 1) ⟨g, 0, none⟩ (ls.length + 1) c (by rfl) (by rfl) cur 23 hg.out vs hmin.out hvc.out (by rw [hvl.out, hcl.out]; omega) hvs1 ?_; intro w3 hg3 hb3))
    all_goals
      replace hb3 : Hid (w.grownBy w3 (some g)) := ⟨hb3.os, hb3.tape, hb3.output, hb3.size, hb3.block⟩
      have hy3 : Hid (∀ j v, [y][j]? = some v → w3.cell? ((⟨gb, 0, none⟩ : Addr).add j) = some v) := fun j v hj => by
        have hj0 : j = 0 := by
          have := (List.getElem?_eq_some_iff.1 hj).1
          simp at this; omega
        subst hj0
        cases hj
        rw [add_zero']
        exact hb3.out.cell hy0.out (by intro e; injection e with e; exact hne e)
      go_wp2_with (refine wpList_copyG rfl (.tmp 80) (.tmp 81) 22 rfl 23 Tryz.underlying22 slice_sizeMap g 0 (ls.length + 1) c ⟨gb, 0, none⟩ 1 1 rfl rfl (splice cur 1 vs) 23 hg3.out [y] hmin2.out hy3.out (by rw [hsz.out]; simp; omega) (by simpa using hy1) ?_; intro w4 hg4 hb4)
      rw [hspl.out] at hg4
      go_ret
      have hb34 : w.grownBy w4 (some g) := ggo hb3.out hb4
      refine ⟨_, rfl, own_cons hb34 hg4.out rfl (by rw [← hspl.out, length_splice _ _ _ (by rw [hsz.out]; simp; omega), hsz.out]) hcm hvl.out hlt.1 (.slice (some ⟨g, 0, none⟩) ls.length c) rfl hx hel.out, ?_⟩
      exact ⟨hb34.os, hb34.tape, hb34.output, hb34.size, fun k hk => hb34.block k (by omega) (by intro e; injection e with e; omega)⟩
  · obtain rfl : c = ls.length := by omega
    obtain ⟨i, hi, hz, hs, hby⟩ := info_parts slice_info
    have j1 : (ls.length : Int) < (ls.length : Int) + 1 := by omega
    have hr := run_append_cut_zeros (P := Tryz.prog) w 22 3 22 23 i (.slice none 0 0) .i64 .i64 Tryz.underlying22 Tryz.underlying3 hi hz ⟨g, 0, none⟩ ls.length (ls.length + 1) (by omega) hs (by omega) (by rw [hby]; omega) (by omega) (by omega)
    have hN := grownCap_ge w (ls.length + 1) ls.length 23
    have hNm := grownCap_le_maxLen w (ls.length + 1) ls.length 23 (by unfold maxLen; omega)
    have hZ : (Builtin.zeroCells (Value.slice none 0 0).cells (ls.length + 1) ++ Builtin.zeroCells (Value.slice none 0 0).cells (grownCap w (ls.length + 1) ls.length 23 - (ls.length + 1))).size = grownCap w (ls.length + 1) ls.length 23 := by
      rw [Array.size_append, zeroL_size, zeroL_size]; omega
    generalize grownCap w (ls.length + 1) ls.length 23 = N at *
    generalize Builtin.zeroCells (Value.slice none 0 0).cells (ls.length + 1) ++ Builtin.zeroCells (Value.slice none 0 0).cells (N - (ls.length + 1)) = Z at *
    have r1 : ∀ W, (Instr.slice 22 (.slice (some ⟨g, 0, none⟩) ls.length ls.length) none (some (.int .i64 0)) none).run Tryz.prog W = .ok (.slice (some ⟨g, 0, none⟩) 0 ls.length) W := fun W => by
      have := run_cut_to (P := Tryz.prog) 22 Tryz.underlying22 1 slice_size (some ⟨g, 0, none⟩) ls.length ls.length .i64 0 (by omega) (by omega) W
      rw [cutA_zero, show (0 : Int).toNat = 0 from rfl] at this
      exact this
    have r2 : ∀ W, (Instr.slice 22 (.slice (some ⟨w.heap.size, 0, none⟩) (ls.length + 1) N) (some (.int .i64 1)) none none).run Tryz.prog W = .ok (.slice (some ⟨w.heap.size, 1, none⟩) ls.length (N - 1)) W := fun W => by
      have := run_cut_from (P := Tryz.prog) 22 Tryz.underlying22 1 slice_size (some ⟨w.heap.size, 0, none⟩) (ls.length + 1) N .i64 1 (by omega) (by omega) W
      rw [show (1 : Int).toNat = 1 from rfl, cutA, if_neg (by omega), Option.map_some, add_zero'] at this
      exact this
    have r3 : ∀ W, (Instr.slice 22 (.slice (some ⟨w.heap.size, 0, none⟩) (ls.length + 1) N) (some (.int .i64 0)) none none).run Tryz.prog W = .ok (.slice (some ⟨w.heap.size, 0, none⟩) (ls.length + 1) N) W := fun W => by
      have := run_cut_from (P := Tryz.prog) 22 Tryz.underlying22 1 slice_size (some ⟨w.heap.size, 0, none⟩) (ls.length + 1) N .i64 0 (by omega) (by omega) W
      rw [show (0 : Int).toNat = 0 from rfl, cutA_zero] at this
      exact this
    have hg1 : (w.drew.alloc (.cells Z 23)).heap[w.heap.size]? = some (.cells Z.toList.toArray 23 (0, 0)) := by
      rw [Array.toArray_toList]; exact heap_alloc_new w.drew _
    have hb1 : Below w.heap.size w (w.drew.alloc (.cells Z 23)) := (bdrew w).trans (balloc w.drew _)
    have hgb := hbx.lt
    have hy0 : ∀ j v, [y][j]? = some v → (w.drew.alloc (.cells Z 23)).cell? ((⟨gb, 0, none⟩ : Addr).add j) = some v := fun j v hj => by
      have hj0 : j = 0 := by
        have := (List.getElem?_eq_some_iff.1 hj).1
        simp at this; omega
      subst hj0
      cases hj
      rw [add_zero']
      exact (hb1.cell (p := ⟨gb, 0, none⟩) hgb).trans (hbx.cell 0)
    have hvc : ∀ j v, vs[j]? = some v → (w.drew.alloc (.cells Z 23)).cell? ((⟨g, 0, none⟩ : Addr).add j) = some v := fun j v hj => by
      rw [add_zero', Nat.zero_add]
      refine (hb1.cell (p := ⟨g, j, none⟩) hlt.2).trans ?_
      rw [block_cell hg, ← hj, ← htk, List.getElem?_take, if_pos (by have := (List.getElem?_eq_some_iff.1 hj).1; omega)]
    have hsz : (splice Z.toList 0 [y]).length = N := by rw [length_splice _ _ _ (by simp; omega)]; simpa using hZ
    have hspl := Lib.hid (splice_head2 Z.toList vs y ls.length hvl (by simp; omega))
    have hmin : Hid (vs.length = Nat.min ls.length ls.length) := by show _ = _; rw [hvl]; exact (Nat.min_self _).symm
    have hmin2 : Hid ([y].length = Nat.min 1 (ls.length + 1)) := by show _ = _; simp
    have hxA : Elt w (.slice (some ⟨w.heap.size, 0, none⟩) 0 0) y x := ⟨hx.1, fun hl k hk e => by cases e; exact absurd (hx.1.blk hl _ hk) (by dsimp only; omega)⟩
    have helA : ∀ k, k < ls.length → ∃ u, vs[k]? = some u ∧ Elt w (.slice (some ⟨w.heap.size, 0, none⟩) 0 0) u (ls.getD k []) := fun k hk => by
      obtain ⟨u, e1, e2⟩ := hel.out k hk
      exact ⟨u, e1, e2.1, fun hl k hk e => by cases e; exact absurd (e2.1.blk hl _ hk) (by dsimp only; omega)⟩
    replace hg1 := Lib.hid hg1
    replace hb1 := Lib.hid hb1
    replace hvl := Lib.hid hvl
    replace hvc := Lib.hid hvc
    replace hy0 := Lib.hid hy0
    replace hsz := Lib.hid hsz
    replace hZ := Lib.hid hZ
    replace hxA := Lib.hid hxA
    replace helA := Lib.hid helA
    replace hr := Lib.hid hr
    have m1 : IntKind.i64.wrap 1 = 1 := by decide +kernel
    have m2 : (1 : Int) ≤ (ls.length : Int) + 1 := by omega
    clear hbx hg htk hcl hel hrow hx hi hz hs hby hfit hgb
    go_enter Tryz.func204, Tryz.ntmps204
    go_wp2_with (first
      | (at_builtin; refine Lib.wpList_append_run _ rfl _ _ _ _ rfl _ _ rfl rfl _ _ hr.out ?_)
      | (refine wpList_copyG rfl (.tmp 43) (.tmp 44) 22 rfl 23 Tryz.underlying22 slice_sizeMap w.heap.size 0 (ls.length + 1) N ⟨gb, 0, none⟩ 1 1 rfl rfl Z.toList 23 hg1.out [y] hmin2.out hy0.out (by have := hZ.out; simp; omega) (by simpa using hy1) ?_; intro w3 hg3 hb3))
    replace hb3 : Hid (w.grownBy w3 (some w.heap.size)) := ggo (gbelow hb1.out) ⟨hb3.os, hb3.tape, hb3.output, hb3.size, hb3.block⟩
    have hvc3 : Hid (∀ j v, vs[j]? = some v → w3.cell? ((⟨g, 0, none⟩ : Addr).add j) = some v) := fun j v hj => by
      have h1 := hvc.out j v hj
      rw [add_zero'] at h1 ⊢
      have h2 := hb1.out.cell (p := ⟨g, 0 + j, none⟩) hlt.2
      exact (World.cell?_of_block (hb3.out.block g hlt.2 (by intro e; injection e with e; omega))).trans (h2.symm.trans h1)
    go_region_held3 (fun W' : World => True) (trivial)
      ((refine step_copyG (by rfl) (.tmp 50) (.tmp 53) 22 (by rfl) 23 Tryz.underlying22 slice_sizeMap w.heap.size 1 ls.length (N - 1) ⟨g, 0, none⟩ ls.length ls.length (by rfl) (by rfl) (splice Z.toList 0 [y]) 23 hg3.out vs hmin.out hvc3.out (by rw [hvl.out, hsz.out]; omega) hvs1 ?_; intro w4 hg4 hb4))
    all_goals
      replace hb4 : Hid (w3.grownBy w4 (some w.heap.size)) := ⟨hb4.os, hb4.tape, hb4.output, hb4.size, hb4.block⟩
      go_wp2_with fail
      rw [hspl.out] at hg4
      go_ret
      have hb34 : w.grownBy w4 (some w.heap.size) := ggo hb3.out hb4.out
      refine ⟨_, rfl, own_cons hb34 hg4.out rfl (by rw [← hspl.out, length_splice _ _ _ (by rw [hsz.out, hvl.out]; omega), hsz.out]) hNm hvl.out hbase (.slice (some ⟨w.heap.size, 0, none⟩) 0 0) rfl hxA.out helA.out, ?_⟩
      exact ⟨hb34.os, hb34.tape, hb34.output, hb34.size, fun k hk => hb34.block k (by omega) (by intro e; injection e with e; omega)⟩
end Go.Proofs.YtkefbjpdpcmpnaaGreat
namespace Go.Proofs.YtkefbjpdpcmpnaaGreat
open Go.RowKit
set_option linter.unusedVariables false
attribute [local go_sem ↓] Go.wp_at_zero Go.wp_at_succ
theorem seesB_of {w W : World} {B : Nat} {v : Value} {l : Bs} (h : SeesB w B v l) (hB : B ≤ w.heap.size) (hb : Below w.heap.size w W) : SeesB W W.heap.size v l := (h.below (hb.mono hB)).more (Nat.le_trans hB hb.size)
/-- Join of a list that is written out. -/
theorem join_lit {vs : List Value} (ls : List Bs) (w0 W : World) (G : Nat) (hG : W.heap.size = G) (hw : Below w0.heap.size w0 W) (h : SeesAll W W.heap.size vs ls) (hm : vs.length ≤ 16) (hl : ls.flatten.length ≤ 1099511627776) :
    Calls Tryz.prog 70 #[.slice (some ⟨G, 0, none⟩) vs.length vs.length] (W.alloc (.cells vs.toArray 23)) fun e w' => ∃ v, e = .returned v ∧ OwnB w' w0.heap.size v ls.flatten ∧ Below w0.heap.size w0 w' := by
  subst hG
  exact (join_any _ _ ls _ (seesL_lit W 23 h (by unfold maxLen; omega)) (Nat.le_refl _) hl).mono fun _ _ ⟨v, h1, h2, h3⟩ => ⟨v, h1, h2.mono (Nat.le_trans hw.size (balloc W _).size), bgo hw (bgo (balloc W _) h3)⟩
theorem rjoin_lit {vs : List Value} (ls : List Bs) (w0 W : World) (G : Nat) (hG : W.heap.size = G) (hw : Below w0.heap.size w0 W) (h : SeesAll W W.heap.size vs ls) (hm : vs.length ≤ 16) (hl : ls.flatten.length ≤ 1099511627776) :
    Calls Tryz.prog 65 #[.slice (some ⟨G, 0, none⟩) vs.length vs.length] (W.alloc (.cells vs.toArray 23)) fun e w' => ∃ v, e = .returned v ∧ OwnB w' w0.heap.size v ls.flatten ∧ Below w0.heap.size w0 w' := by
  subst hG
  exact (rjoin_any _ _ ls _ (seesL_lit W 23 h (by unfold maxLen; omega)) (Nat.le_refl _) hl).mono fun _ _ ⟨v, h1, h2, h3⟩ => ⟨v, h1, h2.mono (Nat.le_trans hw.size (balloc W _).size), bgo hw (bgo (balloc W _) h3)⟩
set_option maxRecDepth 100000 in
theorem sbegin_any (h i : Nat) (w : World) (hh : h < 256) (hi : i < 4294967296) :
    Calls Tryz.prog 206 #[.agg #[.int .i64 (h : Int), .int .i64 (i : Int)]] w (Gives ([UInt8.ofNat h] ++ putB 4 i) w) := by
  have m0 : IntKind.u8.wrap (h : Int) = (h : Int) := by rw [IntKind.wrap_u8]; omega
  have m1 : IntKind.u64.wrap (i : Int) = (i : Int) := by rw [IntKind.wrap_u64]; omega
  have hx : ((UInt8.ofNat h).toNat : Int) = (h : Int) := by simp; omega
  have hp := Lib.hid (put4_any i (by omega))
  have hfl : Hid ([[UInt8.ofNat h], putB 4 i].flatten = [UInt8.ofNat h] ++ putB 4 i) := by show _ = _; simp
  have hl4 := Lib.hid (putB_len 4 i)
  replace hx := Lib.hid hx
  go_enter Tryz.func206, Tryz.ntmps206
  go_wp2_with fail
  have hb0 := balloc w (.cells #[.int .i64 (h : Int), .int .i64 (i : Int)] 172)
  have hbx := Box.new w 172 [.int .i64 (h : Int), .int .i64 (i : Int)]
  change Code.wp _ _ _ _ (w.alloc (.cells #[.int .i64 (h : Int), .int .i64 (i : Int)] 172))
  have hlt : w.heap.size < (w.alloc (.cells #[.int .i64 (h : Int), .int .i64 (i : Int)] 172)).heap.size := hbx.lt
  generalize w.alloc (.cells #[.int .i64 (h : Int), .int .i64 (i : Int)] 172) = w0 at *
  have c0 : w0.cell? ⟨w.heap.size, 0, none⟩ = some (.int .i64 (h : Int)) := hbx.cell 0
  have c1 : w0.cell? ⟨w.heap.size, 1, none⟩ = some (.int .i64 (i : Int)) := hbx.cell 1
  have hg0 := Lib.hid (Eq.refl w.heap.size)
  obtain ⟨g0, hg⟩ : ∃ g0, g0 = w.heap.size := ⟨_, rfl⟩
  rw [← hg] at c0 c1 hlt ⊢
  replace hg := Lib.hid hg
  replace hb0 := Lib.hid hb0
  clear hbx hg0
  have K : Hid (∀ W : World, Below w0.heap.size w0 W → W.cell? ⟨g0, 0, none⟩ = some (.int .i64 (h : Int)) ∧ W.cell? ⟨g0, 1, none⟩ = some (.int .i64 (i : Int))) :=
    fun W hW => ⟨(hW.cell (p := ⟨g0, 0, none⟩) hlt).trans c0, (hW.cell (p := ⟨g0, 1, none⟩) hlt).trans c1⟩
  go_region_held3 (fun W' : World => W'.cell? ⟨g0, 0, none⟩ = some (.int .i64 (h : Int)) ∧ W'.cell? ⟨g0, 1, none⟩ = some (.int .i64 (i : Int)))
    (first | exact K.out _ hb3 | (refine K.out _ ?_; (repeat (first | exact Below.refl _ _ | (refine bgo ?_ (balloc _ _)) | (refine bgo ?_ (bdrew _)) | (refine bgo ?_ (by assumption)))); done) | (go_keep; done))
    (first
      | (go_at_call 70; refine (join_lit (vs := [_, _]) [[UInt8.ofNat h], putB 4 i] w0 _ _ ?_ ?_ ⟨?_, ?_, trivial⟩ (by simp) (by rw [hfl.out]; simp [hl4.out])).mono ?_
         focus (first | rfl | (simp; done))
         focus ((repeat (first | exact Below.refl _ _ | (refine bgo ?_ (balloc _ _)) | (refine bgo ?_ (bdrew _)) | (refine bgo ?_ (by assumption)))); done)
         focus (first | (refine seesB_of (one_byte w0 _ _ hx.out).sees (Nat.le_refl _) ?_; (repeat (first | exact Below.refl _ _ | (refine bgo ?_ (balloc _ _)) | (refine bgo ?_ (bdrew _)) | (refine bgo ?_ (by assumption)))); done) | (refine seesB_of (one_byte w1 _ _ hx.out).sees (Nat.le_refl _) ?_; (repeat (first | exact Below.refl _ _ | (refine bgo ?_ (balloc _ _)) | (refine bgo ?_ (bdrew _)) | (refine bgo ?_ (by assumption)))); done))
         focus (refine seesB_of h1.sees (Nat.le_refl _) ?_; (repeat (first | exact Below.refl _ _ | (refine bgo ?_ (balloc _ _)) | (refine bgo ?_ (bdrew _)) | (refine bgo ?_ (by assumption)))); done)
         rintro e w3 ⟨v3, rfl, h3, hb3⟩)
      | (go_at_call 106; refine (hp.out _).mono ?_; rintro e w1 ⟨v1, rfl, h1, hb1⟩; obtain ⟨A1, c1', rfl, -, -⟩ := h1.sees.mk_))
  all_goals
    go_wp2_with fail
    go_ret
    rw [hfl.out] at h3
    exact ⟨v3, rfl, h3.mono hb0.out.size, bgo hb0.out hb3⟩
set_option maxRecDepth 100000 in
theorem digest_any (B : Nat) (u u2 : Value) (p m : Bs) (i : Nat) (w : World) (hu : SeesB w B u p) (hu2 : SeesB w B u2 m) (hB : B ≤ w.heap.size) (hp : p.length ≤ 1048576) (hm : m.length ≤ 1048576) (hi : i < 4294967296) :
    Calls Tryz.prog 143 #[u, .int .i64 (i : Int), u2] w (Shows (digG p i m) w) := by
  obtain ⟨A, c, rfl, -, -⟩ := hu.mk_
  obtain ⟨AA, cc, rfl, -, -⟩ := hu2.mk_
  have m1 : IntKind.u64.wrap (i : Int) = (i : Int) := by rw [IntKind.wrap_u64]; omega
  have hput := Lib.hid (put4_any i (by omega) w)
  have hl4 := putB_len 4 i
  have hdef : Hid (short (putB 4 i |> fun x => p ++ x ++ m) = digG p i m) := rfl
  replace hu := Lib.hid hu
  replace hu2 := Lib.hid hu2
  go_enter Tryz.func143, Tryz.ntmps143
  go_wp2_with fail
  refine hput.out.mono ?_
  rintro e w1 ⟨v1, rfl, h1, hb1⟩
  obtain ⟨A1, c1, rfl, -, -⟩ := h1.sees.mk_
  have hfl : [p, putB 4 i, m].flatten = p ++ putB 4 i ++ m := by simp
  have hj := Lib.hid (join_lit (vs := [.slice A p.length c, .slice A1 (putB 4 i).length c1, .slice AA m.length cc]) [p, putB 4 i, m] w1 w1 w1.heap.size rfl (Below.refl _ _) ⟨seesB_of (hu.out.more hB) (Nat.le_refl _) hb1, h1.sees, seesB_of (hu2.out.more hB) (Nat.le_refl _) hb1, trivial⟩ (by simp) (by rw [hfl]; simp [hl4]; omega))
  rw [hfl] at hj
  replace hfl := Lib.hid hfl
  replace hb1 := Lib.hid hb1
  have hln : (p ++ putB 4 i ++ m).length ≤ 1099511627776 := by simp [hl4]; omega
  clear h1 hl4
  dsimp only
  go_wp2_with fail
  refine hj.out.mono ?_
  rintro e w2 ⟨v2, rfl, h2, hb2⟩
  have hs := Lib.hid (short_any _ _ _ _ h2.sees (Nat.le_refl _) hln)
  clear hln hj
  dsimp only
  go_wp2_with fail
  refine hs.out.mono ?_
  rintro e w3 ⟨v3, rfl, h3, hb3, hf3⟩
  dsimp only
  go_wp2_with fail
  go_ret
  exact ⟨v3, rfl, h3, bgo (bgo hb1.out hb2) hb3, hf3.mono (bgo hb1.out hb2).size⟩
set_option maxRecDepth 100000 in
theorem rdigest_any (B : Nat) (u u2 : Value) (p m : Bs) (i : Nat) (w : World) (hu : SeesB w B u p) (hu2 : SeesB w B u2 m) (hB : B ≤ w.heap.size) (hp : p.length ≤ 1048576) (hm : m.length ≤ 1048576) (hi : i < 4294967296) :
    Calls Tryz.prog 150 #[u, .int .i64 (i : Int), u2] w (Shows (digG p i m) w) := by
  obtain ⟨A, c, rfl, -, -⟩ := hu.mk_
  obtain ⟨AA, cc, rfl, -, -⟩ := hu2.mk_
  have m1 : IntKind.u64.wrap (i : Int) = (i : Int) := by rw [IntKind.wrap_u64]; omega
  have hput := Lib.hid (rput4_any i (by omega) w)
  have hl4 := putB_len 4 i
  have hdef : Hid (short (putB 4 i |> fun x => p ++ x ++ m) = digG p i m) := rfl
  replace hu := Lib.hid hu
  replace hu2 := Lib.hid hu2
  go_enter Tryz.func150, Tryz.ntmps150
  go_wp2_with fail
  refine hput.out.mono ?_
  rintro e w1 ⟨v1, rfl, h1, hb1⟩
  obtain ⟨A1, c1, rfl, -, -⟩ := h1.sees.mk_
  have hfl : [p, putB 4 i, m].flatten = p ++ putB 4 i ++ m := by simp
  have hj := Lib.hid (rjoin_lit (vs := [.slice A p.length c, .slice A1 (putB 4 i).length c1, .slice AA m.length cc]) [p, putB 4 i, m] w1 w1 w1.heap.size rfl (Below.refl _ _) ⟨seesB_of (hu.out.more hB) (Nat.le_refl _) hb1, h1.sees, seesB_of (hu2.out.more hB) (Nat.le_refl _) hb1, trivial⟩ (by simp) (by rw [hfl]; simp [hl4]; omega))
  rw [hfl] at hj
  replace hfl := Lib.hid hfl
  replace hb1 := Lib.hid hb1
  have hln : (p ++ putB 4 i ++ m).length ≤ 1099511627776 := by simp [hl4]; omega
  clear h1 hl4
  dsimp only
  go_wp2_with fail
  refine hj.out.mono ?_
  rintro e w2 ⟨v2, rfl, h2, hb2⟩
  have hs := Lib.hid (rshort_any _ _ _ _ h2.sees (Nat.le_refl _) hln)
  clear hln hj
  dsimp only
  go_wp2_with fail
  refine hs.out.mono ?_
  rintro e w3 ⟨v3, rfl, h3, hb3, hf3⟩
  dsimp only
  go_wp2_with fail
  go_ret
  exact ⟨v3, rfl, h3, bgo (bgo hb1.out hb2) hb3, hf3.mono (bgo hb1.out hb2).size⟩
end Go.Proofs.YtkefbjpdpcmpnaaGreat
namespace Go.Proofs.YtkefbjpdpcmpnaaGreat
open Go.RowKit
set_option linter.unusedVariables false
attribute [local go_sem ↓] Go.wp_at_zero Go.wp_at_succ
theorem seesL_of {w W : World} {B : Nat} {v : Value} {l : List Bs} (h : SeesL w B v l) (hB : B ≤ w.heap.size) (hb : Below w.heap.size w W) : SeesL W W.heap.size v l := (h.below (hb.mono hB)).more (Nat.le_trans hB hb.size)
theorem seesLL_two (W : World) (v1 v2 : Value) (l1 l2 : List Bs) (h1 : SeesL W W.heap.size v1 l1) (h2 : SeesL W W.heap.size v2 l2) (W2 : World) (hb : Below (W.alloc (.cells #[v1, v2] 22)).heap.size (W.alloc (.cells #[v1, v2] 22)) W2) :
    SeesLL W2 (W.alloc (.cells #[v1, v2] 22)).heap.size (.slice (some ⟨W.heap.size, 0, none⟩) 2 2) [l1, l2] := by
  have hbx := Box.below (Box.new W 22 [v1, v2]) hb
  have hal := balloc W (.cells #[v1, v2] 22)
  refine ⟨[v1, v2], ⟨rfl, _, 2, rfl, Nat.le_refl _, by unfold maxLen; omega, fun _ => ⟨W.heap.size, 0, rfl, by simp, fun j u hj => ?_⟩⟩, fun k hk => ?_⟩
  · rw [Nat.zero_add, hbx.cell j]; exact hj
  · have hh : ∀ {v : Value} {l : List Bs}, SeesL W W.heap.size v l → SeesL W2 (W.alloc (.cells #[v1, v2] 22)).heap.size v l := fun h => ((h.below hal).below (hb.mono hal.size)).more hal.size
    rcases (by simp at hk; omega : k = 0 ∨ k = 1) with rfl | rfl
    · exact ⟨v1, rfl, hh h1⟩
    · exact ⟨v2, rfl, hh h2⟩
theorem concat_lit (W : World) (v1 v2 : Value) (l1 l2 : List Bs) (h1 : SeesL W W.heap.size v1 l1) (h2 : SeesL W W.heap.size v2 l2) (hl : (l1 ++ l2).length ≤ 1048576) :
    Calls Tryz.prog 205 #[.slice (some ⟨W.heap.size, 0, none⟩) 2 2] (W.alloc (.cells #[v1, v2] 22)).drew fun e w' => ∃ v, e = .returned v ∧ OwnL w' W.heap.size v (l1 ++ l2) ∧ Below W.heap.size W w' := by
  have hfl : [l1, l2].flatten = l1 ++ l2 := by simp
  have h := concatL_any (W.alloc (.cells #[v1, v2] 22)).heap.size (.slice (some ⟨W.heap.size, 0, none⟩) 2 2) [l1, l2] (W.alloc (.cells #[v1, v2] 22)).drew
    (seesLL_two W v1 v2 l1 l2 h1 h2 _ (bdrew _)) (fun W3 h3 => seesLL_two W v1 v2 l1 l2 h1 h2 W3 ((bdrew _).trans h3)) (Nat.le_refl _) (by rw [hfl]; exact hl)
  rw [hfl] at h
  exact h.mono fun _ _ ⟨v, e, g1, g2⟩ => ⟨v, e, g1.mono (balloc W _).size, bgo (balloc W _) ((bdrew _).trans g2)⟩
set_option maxRecDepth 100000 in
theorem sigbytes_any (B : Nat) (u u2 : Value) (es ps : List Bs) (h i : Nat) (w : World) (hu : SeesL w B u es) (hu2 : SeesL w B u2 ps) (hB : B ≤ w.heap.size) (hh : h < 256) (hi : i < 4294967296) (he : 1 ≤ es.length) (hlen : es.length + ps.length ≤ 200) (hfl : (es ++ ps).flatten.length ≤ 1048576) :
    Calls Tryz.prog 168 #[.agg #[.int .i64 (h : Int), .int .i64 (i : Int), u, u2]] w (Gives ([UInt8.ofNat h] ++ putB 4 i ++ es.flatten ++ ps.flatten) w) := by
  obtain ⟨A, c, rfl, -, -⟩ := hu.mk_
  obtain ⟨AA, cc, rfl, -, -⟩ := hu2.mk_
  replace hu := Lib.hid hu
  replace hu2 := Lib.hid hu2
  have hl4 := Lib.hid (putB_len 4 i)
  have hsb := Lib.hid (fun W => sbegin_any h i W hh hi)
  go_enter Tryz.func168, Tryz.ntmps168
  go_wp2_with fail
  have hb0 := balloc w (.cells #[.int .i64 (h : Int), .int .i64 (i : Int), .slice A es.length c, .slice AA ps.length cc] 174)
  have hbx := Box.new w 174 [.int .i64 (h : Int), .int .i64 (i : Int), .slice A es.length c, .slice AA ps.length cc]
  change Code.wp _ _ _ _ (w.alloc (.cells #[.int .i64 (h : Int), .int .i64 (i : Int), .slice A es.length c, .slice AA ps.length cc] 174))
  have hlt : w.heap.size < (w.alloc (.cells #[.int .i64 (h : Int), .int .i64 (i : Int), .slice A es.length c, .slice AA ps.length cc] 174)).heap.size := hbx.lt
  generalize w.alloc (.cells #[.int .i64 (h : Int), .int .i64 (i : Int), .slice A es.length c, .slice AA ps.length cc] 174) = w0 at *
  have c0 : w0.cell? ⟨w.heap.size, 0, none⟩ = some (.int .i64 (h : Int)) := hbx.cell 0
  have c1 : w0.cell? ⟨w.heap.size, 1, none⟩ = some (.int .i64 (i : Int)) := hbx.cell 1
  have c2 : w0.cell? ⟨w.heap.size, 2, none⟩ = some (.slice A es.length c) := hbx.cell 2
  have c3 : w0.cell? ⟨w.heap.size, 3, none⟩ = some (.slice AA ps.length cc) := hbx.cell 3
  obtain ⟨g0, hg⟩ : ∃ g0, g0 = w.heap.size := ⟨_, rfl⟩
  rw [← hg] at c0 c1 c2 c3 hlt ⊢
  replace hg := Lib.hid hg
  have hcc := Lib.hid (concat_lit w0 _ _ _ _ (seesL_of hu.out hB hb0) (seesL_of hu2.out hB hb0) (by rw [List.length_append]; omega))
  replace hb0 := Lib.hid hb0
  clear hbx
  have hlen1 : 1 ≤ (es ++ ps).length ∧ (es ++ ps).length ≤ 200 := by rw [List.length_append]; omega
  have hfin : Hid (([[UInt8.ofNat h] ++ putB 4 i] ++ (es ++ ps)).flatten = [UInt8.ofNat h] ++ putB 4 i ++ es.flatten ++ ps.flatten) := by show _ = _; simp
  have hfl2 : Hid ((([UInt8.ofNat h] ++ putB 4 i) :: (es ++ ps)).flatten.length ≤ 1099511627776) := by show _ ≤ _; rw [List.flatten_cons, List.length_append]; simp [hl4.out] at hfl ⊢; omega
  generalize es ++ ps = ls at *
  generalize hhd : [UInt8.ofNat h] ++ putB 4 i = hd at *
  replace hhd := Lib.hid hhd
  have K : Hid (∀ W : World, Below w0.heap.size w0 W → W.cell? ⟨g0, 0, none⟩ = some (.int .i64 (h : Int)) ∧ W.cell? ⟨g0, 1, none⟩ = some (.int .i64 (i : Int)) ∧ W.cell? ⟨g0, 2, none⟩ = some (.slice A es.length c) ∧ W.cell? ⟨g0, 3, none⟩ = some (.slice AA ps.length cc)) :=
    fun W hW => ⟨(hW.cell (p := ⟨g0, 0, none⟩) hlt).trans c0, (hW.cell (p := ⟨g0, 1, none⟩) hlt).trans c1, (hW.cell (p := ⟨g0, 2, none⟩) hlt).trans c2, (hW.cell (p := ⟨g0, 3, none⟩) hlt).trans c3⟩
  go_region_held3 (fun W' : World => W'.cell? ⟨g0, 0, none⟩ = some (.int .i64 (h : Int)) ∧ W'.cell? ⟨g0, 1, none⟩ = some (.int .i64 (i : Int)) ∧ W'.cell? ⟨g0, 2, none⟩ = some (.slice A es.length c) ∧ W'.cell? ⟨g0, 3, none⟩ = some (.slice AA ps.length cc))
    (first | exact K.out _ hb4 | exact K.out _ hb3 | (refine K.out _ ?_; (repeat (first | exact Below.refl _ _ | (refine bgo ?_ (balloc _ _)) | (refine bgo ?_ (bdrew _)) | (refine bgo ?_ (by assumption)))); done) | (go_keep; done))
    (first
      | (go_at_call 144; refine (concat_any _ _ _ _ h3.sees (Nat.le_refl _) hfl2.out).mono ?_; rintro e w4 ⟨v4, rfl, h4, hb4⟩
         replace h4 := h4.mono hb3.size
         replace hb4 := bgo hb3 hb4)
      | (go_at_call 204
         refine (insert_any w0.heap.size g1 w2.heap.size ls.length c1' (.slice A2 hd.length c2') hd ls _ hrow hlen1.1 hlen1.2 (Box.new w2 23 [.slice A2 hd.length c2']) hgne hel (Nat.le_trans hb2'.size (balloc w2 _).size)).mono ?_
         rintro e w3 ⟨v3, rfl, h3, hb3'⟩
         have hb3 := (bgo hb2' (balloc w2 (.cells #[.slice A2 hd.length c2'] 23))).trans hb3'
         clear hb3')
      | (go_at_call 206; refine (hsb.out _).mono ?_; rintro e w2 ⟨v2, rfl, h2, hb2⟩
         have hb2' := bgo hb1 hb2
         have hrow := (h1.below hb2).below (balloc w2 (.cells #[v2] 23))
         have hel := (Elt.of_from (v := .slice (some ⟨g1, 0, none⟩) ls.length c1') h2.sees h2.from (fun k hk => (h1.lt k hk).2)).below (balloc w2 (.cells #[v2] 23))
         have hgne : w2.heap.size ≠ g1 := by have := (h1.lt g1 rfl).2; have := hb2.size; omega
         obtain ⟨A2, c2', rfl, -, -⟩ := h2.sees.mk_)
      | (go_at_call 205; refine hcc.out.mono ?_; rintro e w1 ⟨v1, rfl, h1, hb1⟩
         obtain ⟨A1, c1', rfl⟩ := h1.shape
         obtain ⟨g1, rfl⟩ := h1.at_ hlen1.1))
  all_goals
    go_wp2_with fail
    go_ret
    rw [show hd :: ls = [hd] ++ ls from rfl, hfin.out] at h4
    replace h4 := h4.mono hb0.out.size
    rw [← hhd.out] at h4
    exact ⟨v4, rfl, by simpa using h4, bgo hb0.out hb4⟩
end Go.Proofs.YtkefbjpdpcmpnaaGreat
namespace Go.Proofs.YtkefbjpdpcmpnaaGreat
open Go.RowKit
set_option linter.unusedVariables false
attribute [local go_sem ↓] Go.wp_at_zero Go.wp_at_succ
def validI (seed : Bs) (h n : Int) : Bool := decide (seed.length = 32) && (decide (0 ≤ h) && decide (h ≤ 6)) && decide (0 ≤ n) && decide (n ≤ 2 ^ h.toNat)
theorem tall_yes (h : Int) (w : World) (h0 : 0 ≤ h) (h1 : h ≤ 6) : Calls Tryz.prog 181 #[.int .i64 h] w fun e w' => e = .returned (.bool true) ∧ w' = w := by
  go_enter Tryz.func181, Tryz.ntmps181
  go_wp2
  go_ret
  exact ⟨rfl, rfl⟩
theorem tall_no (h : Int) (w : World) (h0 : h < 0 ∨ 6 < h) : Calls Tryz.prog 181 #[.int .i64 h] w fun e w' => e = .returned (.bool false) ∧ w' = w := by
  by_cases h1 : 0 ≤ h
  · have h2 : ¬ (h ≤ 6) := by omega
    go_enter Tryz.func181, Tryz.ntmps181
    go_wp2
    go_ret
    exact ⟨rfl, rfl⟩
  · go_enter Tryz.func181, Tryz.ntmps181
    go_wp2
    go_ret
    exact ⟨rfl, rfl⟩
set_option maxRecDepth 100000 in
theorem svalid_any (B : Nat) (u : Value) (seed : Bs) (h n : Int) (w : World) (hu : SeesB w B u seed) :
    Calls Tryz.prog 131 #[.agg #[u, .int .i64 h, .int .i64 n]] w (BoolPost (validI seed h n) w) := by
  obtain ⟨A, c, rfl, -, -⟩ := hu.mk_
  clear hu
  have hbb : ∀ k, Below w.heap.size w ((w.alloc (.cells #[.slice A seed.length c, .int .i64 h, .int .i64 n] 39)).drewN k) := fun k => below_drewN (balloc w _) k
  replace hbb := Lib.hid hbb
  by_cases hl : seed.length = 32
  · by_cases hh : 0 ≤ h ∧ h ≤ 6
    · by_cases hn : 0 ≤ n
      · have hv : Hid (validI seed h n = decide (n ≤ 2 ^ h.toNat)) := by show _ = _; simp [validI, hl, hh, hn]
        obtain ⟨h0, h1⟩ := hh
        obtain ⟨k, rfl⟩ := Int.eq_ofNat_of_zero_le h0
        rw [Int.toNat_natCast] at hv
        have hp := wrap_pow k (by omega)
        have hpc : ((2 ^ k : Nat) : Int) = (2 : Int) ^ k := by simp
        rw [← hpc] at hv
        replace hpc := Lib.hid hpc
        have hp64 := pow_le64 k (by omega)
        generalize 2 ^ k = N at *
        rw [hl] at hbb ⊢
        by_cases hN : n ≤ (N : Int)
        · go_enter Tryz.func131, Tryz.ntmps131
          go_wp2_with fail
          go_quiet ((go_at_call 181; exact Calls.quiet_of_same (tall_yes _ _ (by omega) (by omega))))
          go_wp2_with fail
          go_ret
          exact ⟨ret_bool (by rw [hv.out]; simp [hN]), hbb.out _⟩
        · go_enter Tryz.func131, Tryz.ntmps131
          go_wp2_with fail
          go_quiet ((go_at_call 181; exact Calls.quiet_of_same (tall_yes _ _ (by omega) (by omega))))
          go_wp2_with fail
          go_ret
          exact ⟨ret_bool (by rw [hv.out]), hbb.out _⟩
      · have hv : Hid (validI seed h n = false) := by show _ = _; simp [validI, hn]
        obtain ⟨h0, h1⟩ := hh
        rw [hl] at hbb ⊢
        have hn0 : decide (0 ≤ n) = false := by simpa using hn
        go_enter Tryz.func131, Tryz.ntmps131
        go_wp2_with fail
        go_quiet ((go_at_call 181; exact Calls.quiet_of_same (tall_yes _ _ (by omega) (by omega))))
        go_wp2_with fail
        go_ret
        exact ⟨ret_bool (by rw [hv.out]), hbb.out _⟩
    · have hv : Hid (validI seed h n = false) := by show _ = _; simp [validI]; omega
      rw [hl] at hbb ⊢
      go_enter Tryz.func131, Tryz.ntmps131
      go_wp2_with fail
      go_quiet ((go_at_call 181; exact Calls.quiet_of_same (tall_no _ _ (by omega))))
      go_wp2_with fail
      go_ret
      exact ⟨ret_bool (by rw [hv.out]), hbb.out _⟩
  · have hv : Hid (validI seed h n = false) := by show _ = _; simp [validI, hl]
    have hl2 : ((seed.length : Int) == 32) = false := by rw [beq_eq_false_iff_ne]; omega
    go_enter Tryz.func131, Tryz.ntmps131
    go_wp2_with fail
    go_quiet ((go_at_call 181; exact Calls.quiet_of_same (tall_no _ _ (by omega))))
    go_wp2_with fail
    go_ret
    exact ⟨ret_bool (by rw [hv.out]), hbb.out _⟩
set_option maxRecDepth 100000 in
theorem rsvalid_any (B : Nat) (u : Value) (seed : Bs) (h n : Int) (w : World) (hu : SeesB w B u seed) :
    Calls Tryz.prog 107 #[.agg #[u, .int .i64 h, .int .i64 n]] w (BoolPost (validI seed h n) w) := by
  obtain ⟨A, c, rfl, -, -⟩ := hu.mk_
  clear hu
  have hbb : Below w.heap.size w (w.alloc (.cells #[.slice A seed.length c, .int .i64 h, .int .i64 n] 39)) := balloc w _
  replace hbb := Lib.hid hbb
  by_cases hl : seed.length = 32
  · by_cases hh : 0 ≤ h ∧ h ≤ 6
    · by_cases hn : 0 ≤ n
      · have hv : Hid (validI seed h n = decide (n ≤ 2 ^ h.toNat)) := by show _ = _; simp [validI, hl, hh, hn]
        obtain ⟨h0, h1⟩ := hh
        obtain ⟨k, rfl⟩ := Int.eq_ofNat_of_zero_le h0
        rw [Int.toNat_natCast] at hv
        have hp := wrap_pow k (by omega)
        have hpc : ((2 ^ k : Nat) : Int) = (2 : Int) ^ k := by simp
        rw [← hpc] at hv
        replace hpc := Lib.hid hpc
        have hp64 := pow_le64 k (by omega)
        generalize 2 ^ k = N at *
        rw [hl] at hbb ⊢
        go_enter Tryz.func107, Tryz.ntmps107
        go_wp2_with fail
        go_ret
        exact ⟨ret_bool (by rw [hv.out]), hbb.out⟩
      · have hv : Hid (validI seed h n = false) := by show _ = _; simp [validI, hn]
        obtain ⟨h0, h1⟩ := hh
        rw [hl] at hbb ⊢
        have hn0 : decide (0 ≤ n) = false := by simpa using hn
        go_enter Tryz.func107, Tryz.ntmps107
        go_wp2_with fail
        go_ret
        exact ⟨ret_bool (by rw [hv.out]), hbb.out⟩
    · have hv : Hid (validI seed h n = false) := by show _ = _; simp [validI]; omega
      rw [hl] at hbb ⊢
      by_cases h0 : 0 ≤ h
      · have h1 : decide (h ≤ 6) = false := by simp; omega
        go_enter Tryz.func107, Tryz.ntmps107
        go_wp2_with fail
        go_ret
        exact ⟨ret_bool (by rw [hv.out]), hbb.out⟩
      · have h1 : decide (0 ≤ h) = false := by simpa using h0
        go_enter Tryz.func107, Tryz.ntmps107
        go_wp2_with fail
        go_ret
        exact ⟨ret_bool (by rw [hv.out]), hbb.out⟩
  · have hv : Hid (validI seed h n = false) := by show _ = _; simp [validI, hl]
    have hl2 : ((seed.length : Int) == 32) = false := by rw [beq_eq_false_iff_ne]; omega
    go_enter Tryz.func107, Tryz.ntmps107
    go_wp2_with fail
    go_ret
    exact ⟨ret_bool (by rw [hv.out]), hbb.out⟩
end Go.Proofs.YtkefbjpdpcmpnaaGreat

/- Contracts of slices.Grow at nil, slices.Concat and slices.Insert at the head, for rows of lists of bytes. Conditions: those of each theorem. Contract of slices.Insert at the head, for a row of lists of bytes of the call's own and one list. Conditions: the row has 1 to 200 elements; the list does not lie in it. Contracts of (signer.head).begin and of signer.digest and its reference. Conditions: those of each theorem. Contract of (signer.signature).bytes: the bytes of a signature. Conditions: at most 100 elements and hashes, of at most 2^20 bytes. Contracts of signer.tall, Valid, Left and of sectimeref09.Valid, Left. Conditions: that the seed is seen. -/
import Derived.Test.YtdfnandhdgbgeaaTower8
import Derived.Lib.AppendZeros
import Derived.Lib.Overlaps
import Derived.BigQuiet
namespace Go.Proofs.Ytdfnandhdgbgeaa
open Go.RowKit
set_option linter.unusedVariables false
attribute [local go_sem ↓] Go.wp_at_zero Go.wp_at_succ
theorem slice_sizeMap : (Try.prog.info? 22).map (·.size) = some 1 := by kernel_rfl
/-- copy into a row that is known whole: only this row's block is turned. -/
theorem wp_copyG {o : Oper} {a : Act} {w : World} {K : Act → World → Prop} {Q : Exit → Act → World → Prop} (d s : Operand) (T : TypeId)
    (ho : o.op = .call { callee := .builtin .copy, args := #[d, s], argTypes := #[T, T] }) (E : TypeId) (hu : Try.prog.underlying T = some (.slice E)) (hsz : (Try.prog.info? E).map (·.size) = some 1)
    (g off dLen dCap : Nat) (ad : Addr) (sLen sCap : Nat) (hd : a.eval d = .slice (some ⟨g, off, none⟩) dLen dCap) (hs : a.eval s = .slice (some ad) sLen sCap)
    (cur : List Value) (t : TypeId) (hg : w.heap[g]? = some (.cells cur.toArray t (0, 0))) (cs : List Value) (hn : cs.length = Nat.min sLen dLen)
    (hsrc : ∀ j v, cs[j]? = some v → w.cell? (ad.add j) = some v) (hfit : off + cs.length ≤ cur.length) (h1 : ∀ v ∈ cs, v.oneCell' = true)
    (h : ∀ w', Hid (w'.heap[g]? = some (.cells (splice cur off cs).toArray t (0, 0))) → w.grownBy w' (some g) → K (a.put o.dst (goInt cs.length)) w') : o.wp Try.prog a w K Q := by
  have hrun := run_copy_row (P := Try.prog) w T T o.type E g off dLen dCap ad sLen sCap cur.toArray t cs hu hsz hg hn hsrc (by simpa using hfit) h1
  unfold Oper.wp
  simp [execOp, ho, resolve, invoke, builtin, hd, hs, hrun, Result.andThen]
  refine h _ (show _ = _ by simpa [splice] using setRow_heap w g _ _ t _ hg) ⟨rfl, rfl, rfl, by simp [World.setRow], fun k hk hne => setRow_other w g k _ (fun e => hne (by rw [e]))⟩
theorem wpList_copyG {ops : Array Oper} {rest : List Oper} {o : Oper} {a : Act} {w : World} {Q : Exit → Act → World → Prop} (hgd : o.guard = none) (d s : Operand) (T : TypeId)
    (ho : o.op = .call { callee := .builtin .copy, args := #[d, s], argTypes := #[T, T] }) (E : TypeId) (hu : Try.prog.underlying T = some (.slice E)) (hsz : (Try.prog.info? E).map (·.size) = some 1)
    (g off dLen dCap : Nat) (ad : Addr) (sLen sCap : Nat) (hd : a.eval d = .slice (some ⟨g, off, none⟩) dLen dCap) (hs : a.eval s = .slice (some ad) sLen sCap)
    (cur : List Value) (t : TypeId) (hg : w.heap[g]? = some (.cells cur.toArray t (0, 0))) (cs : List Value) (hn : cs.length = Nat.min sLen dLen)
    (hsrc : ∀ j v, cs[j]? = some v → w.cell? (ad.add j) = some v) (hfit : off + cs.length ≤ cur.length) (h1 : ∀ v ∈ cs, v.oneCell' = true)
    (h : ∀ w', Hid (w'.heap[g]? = some (.cells (splice cur off cs).toArray t (0, 0))) → w.grownBy w' (some g) → wpList Try.prog ops Q rest (a.put o.dst (goInt cs.length)) w') : wpList Try.prog ops Q (o :: rest) a w :=
  wpList_plain hgd fun _ hK => wp_copyG d s T ho E hu hsz g off dLen dCap ad sLen sCap hd hs cur t hg cs hn hsrc hfit h1 fun w' h2 h3 => hK _ _ (h w' h2 h3)
theorem step_copyG {ops : Array Oper} {o : Oper} {a : Act} {w : World} {K : Act → World → Prop} {Q : Exit → Act → World → Prop} {F : Prop} (hgd : o.guard = none) (d s : Operand) (T : TypeId)
    (ho : o.op = .call { callee := .builtin .copy, args := #[d, s], argTypes := #[T, T] }) (E : TypeId) (hu : Try.prog.underlying T = some (.slice E)) (hsz : (Try.prog.info? E).map (·.size) = some 1)
    (g off dLen dCap : Nat) (ad : Addr) (sLen sCap : Nat) (hd : a.eval d = .slice (some ⟨g, off, none⟩) dLen dCap) (hs : a.eval s = .slice (some ad) sLen sCap)
    (cur : List Value) (t : TypeId) (hg : w.heap[g]? = some (.cells cur.toArray t (0, 0))) (cs : List Value) (hn : cs.length = Nat.min sLen dLen)
    (hsrc : ∀ j v, cs[j]? = some v → w.cell? (ad.add j) = some v) (hfit : off + cs.length ≤ cur.length) (h1 : ∀ v ∈ cs, v.oneCell' = true)
    (h : ∀ w', Hid (w'.heap[g]? = some (.cells (splice cur off cs).toArray t (0, 0))) → w.grownBy w' (some g) → K (a.put o.dst (goInt cs.length)) w') :
    if Region.wanted o (yielded ops a.tmps) = true then Oper.wp Try.prog o a w K Q else F := by
  have hw : Region.wanted o (yielded ops a.tmps) = true := by simp [Region.wanted, hgd]
  rw [if_pos hw]
  exact wp_copyG d s T ho E hu hsz g off dLen dCap ad sLen sCap hd hs cur t hg cs hn hsrc hfit h1 h
theorem zeroL_size (n : Nat) : (Builtin.zeroCells (Value.slice none 0 0).cells n).size = n := by simp [Builtin.zeroCells, Value.cells]
/-- The value shows these rows of lists. -/
def SeesLL (w : World) (B : Nat) (u : Value) (lss : List (List Bs)) : Prop := ∃ vs : List Value, Sees w B u 1 lss.length vs ∧ ∀ k, k < lss.length → ∃ v, vs[k]? = some v ∧ SeesL w B v (lss.getD k [])
theorem SeesLL.mk_ {w : World} {B : Nat} {u : Value} {ls : List (List Bs)} (h : SeesLL w B u ls) : ∃ A c, u = .slice A ls.length c ∧ ls.length ≤ c ∧ c ≤ maxLen := by
  obtain ⟨vs, h, _⟩ := h
  exact h.mk_
theorem SeesLL.at_ {w : World} {B : Nat} {A : Option Addr} {n c : Nat} {ls : List (List Bs)} (h : SeesLL w B (.slice A n c) ls) (hn : 0 < ls.length) :
    ∃ b o, A = some ⟨b, o, none⟩ ∧ b < B ∧ ∀ k, k < ls.length → ∃ A' c', w.cell? ⟨b, o + k, none⟩ = some (.slice A' (ls.getD k []).length c') ∧ (ls.getD k []).length ≤ c' ∧ c' ≤ maxLen ∧ SeesL w B (.slice A' (ls.getD k []).length c') (ls.getD k []) := by
  obtain ⟨vs, hs, hv⟩ := h
  obtain ⟨_, A', c', e, h1, h2, h3⟩ := hs
  injection e with e1 e2 e3
  subst e1 e2 e3
  obtain ⟨b, o, e, hb, hc⟩ := h3 hn
  refine ⟨b, o, e, hb, fun k hk => ?_⟩
  obtain ⟨v, hv1, hv2⟩ := hv k hk
  obtain ⟨A2, c2, rfl, g1, g2⟩ := hv2.mk_
  exact ⟨A2, c2, hc k _ hv1, g1, g2, hv2⟩
theorem flatL_step (ls : List (List Bs)) (k : Nat) (h : k < ls.length) : (ls.take (k + 1)).flatten = (ls.take k).flatten ++ ls.getD k [] := by
  rw [List.take_succ_eq_append_getElem h, List.flatten_append, List.getD_eq_getElem?_getD, List.getElem?_eq_getElem h]
  simp
theorem flatL_le (ls : List (List Bs)) (k : Nat) : (ls.take k).flatten.length ≤ ls.flatten.length := by
  conv => rhs; rw [← List.take_append_drop k ls, List.flatten_append, List.length_append]
  omega
def sumLL (ls : List (List Bs)) (k : Nat) : Nat := (ls.take k).flatten.length
theorem sumLL_step (ls : List (List Bs)) (k : Nat) (h : k < ls.length) : sumLL ls (k + 1) = sumLL ls k + (ls.getD k []).length := by
  rw [sumLL, flatL_step ls k h, List.length_append]; rfl
theorem elts_of_sees {w : World} {B : Nat} {u v : Value} {ls : List Bs} (h : SeesL w B u ls) (hB : B ≤ w.heap.size) (hv : ∀ k, v.ownBlock = some k → B ≤ k) :
    ∃ vs : List Value, Sees w B u 1 ls.length vs ∧ ∀ k, k < ls.length → ∃ y, vs[k]? = some y ∧ Elt w v y (ls.getD k []) := by
  obtain ⟨vs, h1, h2⟩ := h
  exact ⟨vs, h1, fun k hk => by obtain ⟨y, e1, e2⟩ := h2 k hk; exact ⟨y, e1, Elt.of_old e2 hB hv⟩⟩
end Go.Proofs.Ytdfnandhdgbgeaa
namespace Go.Proofs.Ytdfnandhdgbgeaa
open Go.RowKit
set_option linter.unusedVariables false
attribute [local go_sem ↓] Go.wp_at_zero Go.wp_at_succ
theorem own_cons {w w' : World} {base g n c : Nat} {y : Value} {x : Bs} {ls : List Bs} {vs rest : List Value} (hg : w.grownBy w' (some g)) (hh : w'.heap[g]? = some (.cells (y :: vs ++ rest).toArray 22 (0, 0)))
    (hn : n = ls.length + 1) (hc : (y :: vs ++ rest).length = c) (hcm : c ≤ maxLen) (hv : vs.length = ls.length) (hb : base ≤ g) (A : Value) (hA : A.ownBlock = some g)
    (hx : Elt w A y x) (hel : ∀ k, k < ls.length → ∃ u, vs[k]? = some u ∧ Elt w A u (ls.getD k [])) :
    OwnL w' base (.slice (some ⟨g, 0, none⟩) n c) (x :: ls) := by
  subst hn
  have hst : ∀ {u : Value} {m : Bs}, Elt w A u m → Elt w' (.slice (some ⟨g, 0, none⟩) (ls.length + 1) c) u m := fun {u m} hu => ⟨hu.grown (by rw [hA]; exact hg), fun hm k hk => by
    have := hu.2 hm k hk
    rw [hA] at this
    exact this⟩
  refine ⟨y :: vs, ⟨by simp [hv], .inr ⟨g, c, (y :: vs ++ rest).toArray, rfl, hb, hh, ?_, hcm, by rw [List.size_toArray, hc, Nat.mul_one], ?_⟩⟩, fun k hk => ?_⟩
  · rw [← hc]; simp only [List.cons_append, List.length_cons, List.length_append]; omega
  · rw [Nat.mul_one, List.take_append_of_le_length (by simp [hv]), List.take_of_length_le (by simp [hv])]
  · cases k with
    | zero => exact ⟨y, rfl, hst hx⟩
    | succ k =>
      obtain ⟨u, e1, e2⟩ := hel k (by simpa using hk)
      exact ⟨u, by simpa using e1, by simpa using hst e2⟩
theorem run_append_cut_zeros {P : Program} (w : World) (t tn ty e : TypeId) (i : TypeInfo) (z : Value) (k kn : IntKind) (ht : P.underlying t = some (.slice e)) (htn : P.underlying tn = some (.int kn)) (hi : P.info? e = some i) (hz : i.zero = some z)
    (a : Addr) (c n : Nat) (h0 : c < n) (hs : i.size = 1) (hn : n ≤ 1000) (hb : i.bytes ≤ 1000) (hc : n ≤ 2 * c) (hc2 : c < 256) :
    (Builtin.append_ #[t, tn] ty #[.slice (some a) 0 c, .int k n]).run P w =
      .ok (.slice (some ⟨w.heap.size, 0, none⟩) n (grownCap w n c e)) (w.drew.alloc (.cells (Builtin.zeroCells z.cells n ++ Builtin.zeroCells z.cells (grownCap w n c e - n)) e)) := by
  have hn0 : n ≠ 0 := by omega
  have hw : IntKind.i64.wrap (n : Int) = n := by rw [IntKind.wrap_i64]; omega
  have h63' : ¬ (9223372036854775807 < (n : Int)) := by omega
  have hcap : Builtin.nextslicecap n c = 2 * c := by unfold Builtin.nextslicecap; rw [if_neg (by omega), if_pos hc2]
  have h48' : ¬ (281474976710656 < 2 * c * i.bytes) := by
    have : 2 * c * i.bytes ≤ 512 * 1000 := Nat.mul_le_mul (by omega) hb
    omega
  have h48i : ¬ (281474976710656 < (n : Int) * (i.bytes : Int)) := by
    have : n * i.bytes ≤ 1000 * 1000 := Nat.mul_le_mul hn hb
    have : ((n * i.bytes : Nat) : Int) ≤ 1000000 := by omega
    rw [Int.natCast_mul] at this
    omega
  have hneg : ¬ ((n : Int) < 0) := by omega
  have hnc : ¬ (n ≤ c) := by omega
  have hf := run_firstCells_some (P := P) w.drew 1 0 a 0 c [] rfl (by simp)
  simp [Builtin.append_, run_underlying ht, run_underlying htn, sizeOf, typeInfo, zeroValue, hi, hz, hs, asInt, asIntOf, hw, hn0, hneg, h63', hcap, h48', h48i, hnc, Question.forced, hf, newRow, grownCap]
def InsPost (base : Nat) (ls : List Bs) (w : World) (e : Ending) (w' : World) : Prop := ∃ v, e = .returned v ∧ OwnL w' base v ls ∧ Below base w w'
theorem splice_head (cur vs : List Value) (y : Value) (n : Nat) (h : cur.take n = vs) (hn : n + 1 ≤ cur.length) : splice (splice cur 1 vs) 0 [y] = y :: vs ++ cur.drop (n + 1) := by
  subst h
  have hl : (cur.take n).length = n := by rw [List.length_take]; omega
  match cur, hn with
  | a :: cur, hn =>
    simp [splice, hl, Nat.add_comm]
theorem splice_head2 (Z vs : List Value) (y : Value) (n : Nat) (h : vs.length = n) (hn : n + 1 ≤ Z.length) : splice (splice Z 0 [y]) 1 vs = y :: vs ++ Z.drop (n + 1) := by
  subst h
  match Z, hn with
  | a :: Z, hn => simp [splice, Nat.add_comm]
theorem wp_val {P : Program} {code : Code} {Q : Exit → Act → World → Prop} {a : Act} {w : World} (R : World → Prop) (h1 : R w) (h2 : R w → Code.wp P code Q a w) : Code.wp P code Q a w := h2 h1
end Go.Proofs.Ytdfnandhdgbgeaa
namespace Go.Proofs.Ytdfnandhdgbgeaa
open Go.RowKit
set_option linter.unusedVariables false
attribute [local go_sem ↓] Go.wp_at_zero Go.wp_at_succ
theorem seesB_of {w W : World} {B : Nat} {v : Value} {l : Bs} (h : SeesB w B v l) (hB : B ≤ w.heap.size) (hb : Below w.heap.size w W) : SeesB W W.heap.size v l := (h.below (hb.mono hB)).more (Nat.le_trans hB hb.size)
/-- Join of a list that is written out. -/
theorem join_lit {vs : List Value} (ls : List Bs) (w0 W : World) (G : Nat) (hG : W.heap.size = G) (hw : Below w0.heap.size w0 W) (h : SeesAll W W.heap.size vs ls) (hm : vs.length ≤ 16) (hl : ls.flatten.length ≤ 1099511627776) :
    Calls Try.prog 19 #[.slice (some ⟨G, 0, none⟩) vs.length vs.length] (W.alloc (.cells vs.toArray 22)) fun e w' => ∃ v, e = .returned v ∧ OwnB w' w0.heap.size v ls.flatten ∧ Below w0.heap.size w0 w' := by
  subst hG
  exact (join_any _ _ ls _ (seesL_lit W 22 h (by unfold maxLen; omega)) (Nat.le_refl _) hl).mono fun _ _ ⟨v, h1, h2, h3⟩ => ⟨v, h1, h2.mono (Nat.le_trans hw.size (balloc W _).size), bgo hw (bgo (balloc W _) h3)⟩
theorem rjoin_lit {vs : List Value} (ls : List Bs) (w0 W : World) (G : Nat) (hG : W.heap.size = G) (hw : Below w0.heap.size w0 W) (h : SeesAll W W.heap.size vs ls) (hm : vs.length ≤ 16) (hl : ls.flatten.length ≤ 1099511627776) :
    Calls Try.prog 26 #[.slice (some ⟨G, 0, none⟩) vs.length vs.length] (W.alloc (.cells vs.toArray 22)) fun e w' => ∃ v, e = .returned v ∧ OwnB w' w0.heap.size v ls.flatten ∧ Below w0.heap.size w0 w' := by
  subst hG
  exact (rjoin_any _ _ ls _ (seesL_lit W 22 h (by unfold maxLen; omega)) (Nat.le_refl _) hl).mono fun _ _ ⟨v, h1, h2, h3⟩ => ⟨v, h1, h2.mono (Nat.le_trans hw.size (balloc W _).size), bgo hw (bgo (balloc W _) h3)⟩
set_option maxRecDepth 100000 in
theorem digest_any (B : Nat) (u u2 : Value) (p m : Bs) (i : Nat) (w : World) (hu : SeesB w B u p) (hu2 : SeesB w B u2 m) (hB : B ≤ w.heap.size) (hp : p.length ≤ 1048576) (hm : m.length ≤ 1048576) (hi : i < 4294967296) :
    Calls Try.prog 48 #[u, .int .i64 (i : Int), u2] w (Shows (digG p i m) w) := by
  obtain ⟨A, c, rfl, -, -⟩ := hu.mk_
  obtain ⟨AA, cc, rfl, -, -⟩ := hu2.mk_
  have m1 : IntKind.u64.wrap (i : Int) = (i : Int) := by rw [IntKind.wrap_u64]; omega
  have hput := Lib.hid (put4_any i (by omega) w)
  have hl4 := putB_len 4 i
  have hdef : Hid (short (putB 4 i |> fun x => p ++ x ++ m) = digG p i m) := rfl
  replace hu := Lib.hid hu
  replace hu2 := Lib.hid hu2
  go_enter Try.func48, Try.ntmps48
  go_wp2_with fail
  refine hput.out.mono ?_
  rintro e w1 ⟨v1, rfl, h1, hb1⟩
  obtain ⟨A1, c1, rfl, -, -⟩ := h1.sees.mk_
  have hfl : [p, putB 4 i, m].flatten = p ++ putB 4 i ++ m := by simp
  have hj := Lib.hid (join_lit (vs := [.slice A p.length c, .slice A1 (putB 4 i).length c1, .slice AA m.length cc]) [p, putB 4 i, m] w1 w1 w1.heap.size rfl (Below.refl _ _) ⟨seesB_of (hu.out.more hB) (Nat.le_refl _) hb1, h1.sees, seesB_of (hu2.out.more hB) (Nat.le_refl _) hb1, trivial⟩ (by simp) (by rw [hfl]; simp [hl4]; omega))
  rw [hfl] at hj
  replace hfl := Lib.hid hfl
  replace hb1 := Lib.hid hb1
  have hln : (p ++ putB 4 i ++ m).length ≤ 1099511627776 := by simp [hl4]; omega
  clear h1 hl4
  dsimp only
  go_wp2_with fail
  refine hj.out.mono ?_
  rintro e w2 ⟨v2, rfl, h2, hb2⟩
  have hs := Lib.hid (short_any _ _ _ _ h2.sees (Nat.le_refl _) hln)
  clear hln hj
  dsimp only
  go_wp2_with fail
  refine hs.out.mono ?_
  rintro e w3 ⟨v3, rfl, h3, hb3, hf3⟩
  dsimp only
  go_wp2_with fail
  go_ret
  exact ⟨v3, rfl, h3, bgo (bgo hb1.out hb2) hb3, hf3.mono (bgo hb1.out hb2).size⟩
set_option maxRecDepth 100000 in
theorem rdigest_any (B : Nat) (u u2 : Value) (p m : Bs) (i : Nat) (w : World) (hu : SeesB w B u p) (hu2 : SeesB w B u2 m) (hB : B ≤ w.heap.size) (hp : p.length ≤ 1048576) (hm : m.length ≤ 1048576) (hi : i < 4294967296) :
    Calls Try.prog 58 #[u, .int .i64 (i : Int), u2] w (Shows (digG p i m) w) := by
  obtain ⟨A, c, rfl, -, -⟩ := hu.mk_
  obtain ⟨AA, cc, rfl, -, -⟩ := hu2.mk_
  have m1 : IntKind.u64.wrap (i : Int) = (i : Int) := by rw [IntKind.wrap_u64]; omega
  have hput := Lib.hid (rput4_any i (by omega) w)
  have hl4 := putB_len 4 i
  have hdef : Hid (short (putB 4 i |> fun x => p ++ x ++ m) = digG p i m) := rfl
  replace hu := Lib.hid hu
  replace hu2 := Lib.hid hu2
  go_enter Try.func58, Try.ntmps58
  go_wp2_with fail
  refine hput.out.mono ?_
  rintro e w1 ⟨v1, rfl, h1, hb1⟩
  obtain ⟨A1, c1, rfl, -, -⟩ := h1.sees.mk_
  have hfl : [p, putB 4 i, m].flatten = p ++ putB 4 i ++ m := by simp
  have hj := Lib.hid (rjoin_lit (vs := [.slice A p.length c, .slice A1 (putB 4 i).length c1, .slice AA m.length cc]) [p, putB 4 i, m] w1 w1 w1.heap.size rfl (Below.refl _ _) ⟨seesB_of (hu.out.more hB) (Nat.le_refl _) hb1, h1.sees, seesB_of (hu2.out.more hB) (Nat.le_refl _) hb1, trivial⟩ (by simp) (by rw [hfl]; simp [hl4]; omega))
  rw [hfl] at hj
  replace hfl := Lib.hid hfl
  replace hb1 := Lib.hid hb1
  have hln : (p ++ putB 4 i ++ m).length ≤ 1099511627776 := by simp [hl4]; omega
  clear h1 hl4
  dsimp only
  go_wp2_with fail
  refine hj.out.mono ?_
  rintro e w2 ⟨v2, rfl, h2, hb2⟩
  have hs := Lib.hid (rshort_any _ _ _ _ h2.sees (Nat.le_refl _) hln)
  clear hln hj
  dsimp only
  go_wp2_with fail
  refine hs.out.mono ?_
  rintro e w3 ⟨v3, rfl, h3, hb3, hf3⟩
  dsimp only
  go_wp2_with fail
  go_ret
  exact ⟨v3, rfl, h3, bgo (bgo hb1.out hb2) hb3, hf3.mono (bgo hb1.out hb2).size⟩
end Go.Proofs.Ytdfnandhdgbgeaa
namespace Go.Proofs.Ytdfnandhdgbgeaa
open Go.RowKit
set_option linter.unusedVariables false
attribute [local go_sem ↓] Go.wp_at_zero Go.wp_at_succ
theorem seesL_of {w W : World} {B : Nat} {v : Value} {l : List Bs} (h : SeesL w B v l) (hB : B ≤ w.heap.size) (hb : Below w.heap.size w W) : SeesL W W.heap.size v l := (h.below (hb.mono hB)).more (Nat.le_trans hB hb.size)
theorem seesLL_two (W : World) (v1 v2 : Value) (l1 l2 : List Bs) (h1 : SeesL W W.heap.size v1 l1) (h2 : SeesL W W.heap.size v2 l2) (W2 : World) (hb : Below (W.alloc (.cells #[v1, v2] 30)).heap.size (W.alloc (.cells #[v1, v2] 30)) W2) :
    SeesLL W2 (W.alloc (.cells #[v1, v2] 30)).heap.size (.slice (some ⟨W.heap.size, 0, none⟩) 2 2) [l1, l2] := by
  have hbx := Box.below (Box.new W 30 [v1, v2]) hb
  have hal := balloc W (.cells #[v1, v2] 30)
  refine ⟨[v1, v2], ⟨rfl, _, 2, rfl, Nat.le_refl _, by unfold maxLen; omega, fun _ => ⟨W.heap.size, 0, rfl, by simp, fun j u hj => ?_⟩⟩, fun k hk => ?_⟩
  · rw [Nat.zero_add, hbx.cell j]; exact hj
  · have hh : ∀ {v : Value} {l : List Bs}, SeesL W W.heap.size v l → SeesL W2 (W.alloc (.cells #[v1, v2] 30)).heap.size v l := fun h => ((h.below hal).below (hb.mono hal.size)).more hal.size
    rcases (by simp at hk; omega : k = 0 ∨ k = 1) with rfl | rfl
    · exact ⟨v1, rfl, hh h1⟩
    · exact ⟨v2, rfl, hh h2⟩
end Go.Proofs.Ytdfnandhdgbgeaa
namespace Go.Proofs.Ytdfnandhdgbgeaa
open Go.RowKit
set_option linter.unusedVariables false
attribute [local go_sem ↓] Go.wp_at_zero Go.wp_at_succ
def validI (seed : Bs) (h n : Int) : Bool := decide (seed.length = 32) && (decide (0 ≤ h) && decide (h ≤ 6)) && decide (0 ≤ n) && decide (n ≤ 2 ^ h.toNat)
theorem tall_yes (h : Int) (w : World) (h0 : 0 ≤ h) (h1 : h ≤ 6) : Calls Try.prog 81 #[.int .i64 h] w fun e w' => e = .returned (.bool true) ∧ w' = w := by
  go_enter Try.func81, Try.ntmps81
  go_wp2
  go_ret
  exact ⟨rfl, rfl⟩
theorem tall_no (h : Int) (w : World) (h0 : h < 0 ∨ 6 < h) : Calls Try.prog 81 #[.int .i64 h] w fun e w' => e = .returned (.bool false) ∧ w' = w := by
  by_cases h1 : 0 ≤ h
  · have h2 : ¬ (h ≤ 6) := by omega
    go_enter Try.func81, Try.ntmps81
    go_wp2
    go_ret
    exact ⟨rfl, rfl⟩
  · go_enter Try.func81, Try.ntmps81
    go_wp2
    go_ret
    exact ⟨rfl, rfl⟩
end Go.Proofs.Ytdfnandhdgbgeaa

/- append of bytes and of a string onto a row of bytes of the call's own: what the row holds, what else changes, where it lies. Conditions: those of each theorem. -/
import Derived.Test.YtkefbjpdpcmpnaaGreatSet8
import Derived.Lib.AppendStr
namespace Go.Proofs.YtkefbjpdpcmpnaaGreat
open Go.RowKit
set_option linter.unusedVariables false
theorem strCells_vb (l : Bs) : Lib.strCells (strB l) = vb l := by simp [Lib.strCells, strB, vb, byV]
/-- Where a row lies behind an append. -/
def Moved (w : World) (v v' : Value) : Prop := v'.ownBlock = v.ownBlock ∨ v'.ownBlock = some w.heap.size
theorem run_append_str (w : World) (base : Nat) (ty : TypeId) (v : Value) (l m : Bs) (hown : OwnB w base v l) (hlen : l.length + m.length ≤ 140737488355328) (hbase : base ≤ w.heap.size) :
    ∃ v' w', (Builtin.append_ #[23, 9] ty #[v, .string (strB m)]).run Tryz.prog w = .ok v' w' ∧ OwnB w' base v' (l ++ m) ∧ w.grownBy w' v.ownBlock ∧ Moved w v v' := by
  obtain ⟨i, hi, hz, hsz, hby⟩ := info_parts byte_info
  have hsize : (strB m).size = m.length := by simp [strB, ByteArray.size]
  obtain ⟨v', w', hrun, h2, h3, h4⟩ := Lib.run_append_own_string (P := Tryz.prog) w base 23 9 ty 5 i Tryz.underlying23 Tryz.underlying9 hi hz hsz hby v l.length (vb l) hown (strB m) (by unfold maxLen; omega) (by omega) hbase
  rw [strCells_vb, hsize] at h2
  refine ⟨v', w', hrun, ?_, h3, ?_⟩
  · unfold OwnB
    rw [vb_append, List.length_append]
    exact h2
  · rcases hown.2 with ⟨rfl, h0⟩ | ⟨g0, cap0, cur0, rfl, hbg0, hg0, hnc0, hcm0, hcs0, htake0⟩
    · by_cases hm : (strB m).size = 0
      · rw [h4.2 ⟨rfl, hm⟩]
        exact .inl rfl
      · have hr := run_append_nil_string (P := Tryz.prog) w 23 9 ty 5 i (.int .u8 0) Tryz.underlying23 Tryz.underlying9 hi hz (strB m) (by omega) (by omega) (by rw [hby]; omega)
        rw [hr] at hrun
        injection hrun with e1 e2
        rw [← e1]
        exact .inr rfl
    · by_cases hroom : l.length + (strB m).size ≤ cap0
      · have hr := Lib.run_append_room_string (P := Tryz.prog) w 23 9 ty 5 i Tryz.underlying23 Tryz.underlying9 hi hsz g0 l.length cap0 cur0 hg0 (strB m) hroom (by omega)
        rw [hr] at hrun
        injection hrun with e1 e2
        rw [← e1]
        exact .inl rfl
      · have hr := Lib.run_append_grow_string (P := Tryz.prog) w 23 9 ty 5 i (.int .u8 0) Tryz.underlying23 Tryz.underlying9 hi hz ⟨g0, 0, none⟩ l.length cap0 (vb l) (by rw [vb_len, hsz, Nat.mul_one]) (fun j u hj => by
          rw [add_zero', Nat.zero_add, World.ownsRow.cellAt hown j (by have := (List.getElem?_eq_some_iff.1 hj).1; rw [vb_len] at this; omega)]
          exact hj) (strB m) (by omega) (by omega) (growslice_fits (by omega) (by rw [hby]; omega))
        rw [hr] at hrun
        injection hrun with e1 e2
        rw [← e1]
        exact .inr rfl
theorem wp_appS {o : Oper} {a : Act} {w : World} {K : Act → World → Prop} {Q : Exit → Act → World → Prop} (s x : Operand)
    (ho : o.op = .call { callee := .builtin .append, args := #[s, x], argTypes := #[23, 9] })
    (base : Nat) (v : Value) (l m : Bs) (hs : a.eval s = v) (hown : OwnB w base v l) (S : ByteArray) (hS : S = strB m) (hx : a.eval x = .string S)
    (hlen : l.length + m.length ≤ 140737488355328) (hbase : base ≤ w.heap.size)
    (h : ∀ v' w', OwnB w' base v' (l ++ m) → w.grownBy w' v.ownBlock → Moved w v v' → K (a.put o.dst v') w') : o.wp Tryz.prog a w K Q := by
  subst hS
  obtain ⟨v', w', hrun, h2, h3, h4⟩ := run_append_str w base o.type v l m hown hlen hbase
  unfold Oper.wp execOp
  simp only [ho, resolve, invoke, builtin, Sem.run_bind, Sem.run_pure, Result.andThen_ok, List.map_toArray, List.map_cons, List.map_nil, hs, hx, hrun]
  exact h v' w' h2 h3 h4
theorem wpList_appS {ops : Array Oper} {rest : List Oper} {o : Oper} {a : Act} {w : World} {Q : Exit → Act → World → Prop} (hgd : Region.wanted o (yielded ops a.tmps) = true) (s x : Operand)
    (ho : o.op = .call { callee := .builtin .append, args := #[s, x], argTypes := #[23, 9] })
    (base : Nat) (v : Value) (l m : Bs) (hs : a.eval s = v) (hown : OwnB w base v l) (S : ByteArray) (hS : S = strB m) (hx : a.eval x = .string S)
    (hlen : l.length + m.length ≤ 140737488355328) (hbase : base ≤ w.heap.size)
    (h : ∀ v' w', OwnB w' base v' (l ++ m) → w.grownBy w' v.ownBlock → Moved w v v' → wpList Tryz.prog ops Q rest (a.put o.dst v') w') : wpList Tryz.prog ops Q (o :: rest) a w :=
  BigFrame.wpList_want hgd fun _ hK => wp_appS s x ho base v l m hs hown S hS hx hlen hbase fun v' w' h2 h3 h4 => hK _ _ (h v' w' h2 h3 h4)
theorem step_appS {ops : Array Oper} {o : Oper} {a : Act} {w : World} {K : Act → World → Prop} {Q : Exit → Act → World → Prop} {E : Prop} (hgd : o.guard = none) (s x : Operand)
    (ho : o.op = .call { callee := .builtin .append, args := #[s, x], argTypes := #[23, 9] })
    (base : Nat) (v : Value) (l m : Bs) (hs : a.eval s = v) (hown : OwnB w base v l) (S : ByteArray) (hS : S = strB m) (hx : a.eval x = .string S)
    (hlen : l.length + m.length ≤ 140737488355328) (hbase : base ≤ w.heap.size)
    (h : ∀ v' w', OwnB w' base v' (l ++ m) → w.grownBy w' v.ownBlock → Moved w v v' → K (a.put o.dst v') w') : if Region.wanted o (yielded ops a.tmps) = true then Oper.wp Tryz.prog o a w K Q else E := by
  have hw : Region.wanted o (yielded ops a.tmps) = true := by simp [Region.wanted, hgd]
  rw [if_pos hw]
  exact wp_appS s x ho base v l m hs hown S hS hx hlen hbase h
theorem wp_appM {o : Oper} {a : Act} {w : World} {K : Act → World → Prop} {Q : Exit → Act → World → Prop} (s x : Operand)
    (ho : o.op = .call { callee := .builtin .append, args := #[s, x], argTypes := #[23, 23] })
    (base : Nat) (v : Value) (l : Bs) (hs : a.eval s = v) (hown : OwnB w base v l) (B : Nat) (u : Value) (m : Bs) (hx : a.eval x = u) (hr : SeesB w B u m)
    (hlen : l.length + m.length ≤ 140737488355328) (hbase : base ≤ w.heap.size)
    (h : ∀ v' w', OwnB w' base v' (l ++ m) → w.grownBy w' v.ownBlock → Moved w v v' → K (a.put o.dst v') w') : o.wp Tryz.prog a w K Q := by
  obtain ⟨i, hi, hz, hsz, hby⟩ := info_parts byte_info
  refine wp_append_sees s x 23 ho base 5 i (.int .u8 0) 1 1 Tryz.underlying23 hi hz hsz hby rfl (by omega) v l.length (vb l) hs hown B u m.length (vb m) hx hr (vb_one m) (by unfold maxLen; omega) (by omega) hbase ?_
  intro v' w' h1 h2 h3
  refine h v' w' ?_ h2 h3
  unfold OwnB
  rw [vb_append, List.length_append]
  exact h1
theorem wpList_appM {ops : Array Oper} {rest : List Oper} {o : Oper} {a : Act} {w : World} {Q : Exit → Act → World → Prop} (hgd : Region.wanted o (yielded ops a.tmps) = true) (s x : Operand)
    (ho : o.op = .call { callee := .builtin .append, args := #[s, x], argTypes := #[23, 23] })
    (base : Nat) (v : Value) (l : Bs) (hs : a.eval s = v) (hown : OwnB w base v l) (B : Nat) (u : Value) (m : Bs) (hx : a.eval x = u) (hr : SeesB w B u m)
    (hlen : l.length + m.length ≤ 140737488355328) (hbase : base ≤ w.heap.size)
    (h : ∀ v' w', OwnB w' base v' (l ++ m) → w.grownBy w' v.ownBlock → Moved w v v' → wpList Tryz.prog ops Q rest (a.put o.dst v') w') : wpList Tryz.prog ops Q (o :: rest) a w :=
  BigFrame.wpList_want hgd fun _ hK => wp_appM s x ho base v l hs hown B u m hx hr hlen hbase fun v' w' h2 h3 h4 => hK _ _ (h v' w' h2 h3 h4)
theorem step_appM {ops : Array Oper} {o : Oper} {a : Act} {w : World} {K : Act → World → Prop} {Q : Exit → Act → World → Prop} {E : Prop} (hgd : o.guard = none) (s x : Operand)
    (ho : o.op = .call { callee := .builtin .append, args := #[s, x], argTypes := #[23, 23] })
    (base : Nat) (v : Value) (l : Bs) (hs : a.eval s = v) (hown : OwnB w base v l) (B : Nat) (u : Value) (m : Bs) (hx : a.eval x = u) (hr : SeesB w B u m)
    (hlen : l.length + m.length ≤ 140737488355328) (hbase : base ≤ w.heap.size)
    (h : ∀ v' w', OwnB w' base v' (l ++ m) → w.grownBy w' v.ownBlock → Moved w v v' → K (a.put o.dst v') w') : if Region.wanted o (yielded ops a.tmps) = true then Oper.wp Tryz.prog o a w K Q else E := by
  have hw : Region.wanted o (yielded ops a.tmps) = true := by simp [Region.wanted, hgd]
  rw [if_pos hw]
  exact wp_appM s x ho base v l hs hown B u m hx hr hlen hbase h
/-- Two rows do not lie in one block. -/
def Apart (v u : Value) : Prop := ∀ k, v.ownBlock = some k → u.ownBlock ≠ some k
theorem Apart.symm {v u : Value} (h : Apart v u) : Apart u v := fun k hk e => h k e hk
theorem Apart.nil (u : Value) : Apart (.slice none 0 0) u := fun k hk => by cases hk
theorem OwnB.apart {w w' : World} {base : Nat} {v u : Value} {l : Bs} (h : OwnB w base u l) (hg : w.grownBy w' v.ownBlock) (ha : Apart v u) : OwnB w' base u l := by
  refine World.ownsRow.kept h hg ?_
  rcases hu : u.ownBlock with _ | k
  · exact .inl rfl
  · refine .inr fun e => ?_
    exact ha k e.symm hu
theorem Apart.moved {w : World} {base : Nat} {v v' u : Value} {l : Bs} (ha : Apart v u) (hm : Moved w v v') (hu : OwnB w base u l) : Apart v' u := fun k hk e => by
  rcases hm with h | h
  · exact ha k (by rw [← h]; exact hk) e
  · rw [h] at hk
    cases hk
    have := (World.ownsRow.lt hu _ e).2
    omega
theorem below_grown {w w' : World} {base : Nat} {v : Value} {l : Bs} (h : OwnB w base v l) (hg : w.grownBy w' v.ownBlock) (hb : base ≤ w.heap.size) : Below base w w' := below_of_grown h hg hb
end Go.Proofs.YtkefbjpdpcmpnaaGreat

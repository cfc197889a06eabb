/- Rows of numbers; contract of sectimeref34.put. Conditions: the numbers are seen, ascending. -/
import Derived.Test.YtiiaghmdajdbbaaQE0
namespace Go.Proofs.Ytiiaghmdajdbbaa
open Go.RowKit
set_option linter.unusedVariables false
set_option linter.unusedSimpArgs false
attribute [local go_sem ↓] Go.wp_at_zero Go.wp_at_succ
/-- The cells of numbers. -/
def viI (l : List Int) : List Value := l.map fun x => .int .i64 x
theorem viI_len (l : List Int) : (viI l).length = l.length := by simp [viI]
theorem viI_get (l : List Int) (j : Nat) : (viI l)[j]? = l[j]?.map fun x => .int .i64 x := by simp [viI]
theorem viI_append (a b : List Int) : viI (a ++ b) = viI a ++ viI b := by simp [viI]
theorem viI_one (l : List Int) : ∀ u ∈ viI l, u.oneCell' = true := by
  intro u hu
  obtain ⟨x, _, rfl⟩ := List.mem_map.1 hu
  rfl
def SeesI (w : World) (B : Nat) (v : Value) (l : List Int) : Prop := Sees w B v 1 l.length (viI l)
theorem SeesI.mk_ {w : World} {B : Nat} {v : Value} {l : List Int} (h : SeesI w B v l) : ∃ A c, v = .slice A l.length c ∧ l.length ≤ c ∧ c ≤ maxLen := Sees.mk_ h
theorem SeesI.at_ {w : World} {B : Nat} {l : List Int} {A : Option Addr} {n c : Nat} (h : SeesI w B (.slice A n c) l) (hn : 0 < l.length) : ∃ b o, A = some ⟨b, o, none⟩ ∧ b < B ∧ ∀ j x, l[j]? = some x → w.cell? ⟨b, o + j, none⟩ = some (.int .i64 x) := by
  obtain ⟨A', c', e, -, -⟩ := h.mk_
  injection e with e1 e2 e3
  subst e1 e2 e3
  obtain ⟨b, o, e, hb, hc⟩ := Sees.at_ h hn
  exact ⟨b, o, e, hb, fun j x hx => hc _ _ (by rw [viI_get, hx]; rfl)⟩
theorem SeesI.cut {w : World} {B n c a b : Nat} {A : Option Addr} {l : List Int} (h : SeesI w B (.slice A n c) l) (hab : a ≤ b) (hb : b ≤ l.length) :
    SeesI w B (.slice (cutA A c a 1) (b - a) (c - a)) ((l.drop a).take (b - a)) := by
  have hn : n = l.length := by
    obtain ⟨_, A', c', hv, _⟩ := h
    injection hv
  subst hn
  have := Sees.cut (l := a) (h' := b) h hab hb
  rw [Nat.mul_one, Nat.mul_one] at this
  unfold SeesI
  rw [show ((l.drop a).take (b - a)).length = b - a from by rw [List.length_take, List.length_drop]; omega, show viI ((l.drop a).take (b - a)) = ((viI l).drop a).take (b - a) from by simp [viI, List.map_drop, List.map_take]]
  exact this
/-- A row of numbers that grows beside what lay in w0. -/
def Acc (w0 W : World) (v : Value) (xs : List Int) : Prop := W.ownsRow w0.heap.size 3 1 v xs.length (viI xs) ∧ Below w0.heap.size w0 W
theorem Acc.nil {w0 W : World} (h : Below w0.heap.size w0 W) : Acc w0 W (.slice none 0 0) [] := ⟨World.ownsRow_nil _ _ _ _, h⟩
theorem Acc.alloc {w0 W : World} {v : Value} {xs : List Int} (h : Acc w0 W v xs) (o : Obj) : Acc w0 (W.alloc o) v xs := ⟨own_below h.1 (balloc _ _), bgo h.2 (balloc _ _)⟩
theorem Acc.drew {w0 W : World} {v : Value} {xs : List Int} (h : Acc w0 W v xs) : Acc w0 W.drew v xs := ⟨own_below h.1 (bdrew _), bgo h.2 (bdrew _)⟩
theorem Acc.shape {w0 W : World} {v : Value} {xs : List Int} (h : Acc w0 W v xs) : ∃ A n c, v = .slice A n c := by
  obtain ⟨A, c, e, -, -⟩ := (Sees.of_own h.1).mk_
  exact ⟨A, _, c, e⟩
def Lit (W : World) (u : Value) (xs : List Int) : Prop := SeesI W W.heap.size u xs
theorem Lit.sees {W : World} {u : Value} {xs : List Int} (h : Lit W u xs) : SeesI W W.heap.size u xs := h
theorem Lit.below {W W' : World} {u : Value} {xs : List Int} (h : Lit W u xs) (hb : Below W.heap.size W W') : Lit W' u xs := (Sees.below h hb).more hb.size
theorem Lit.alloc {W : World} {u : Value} {xs : List Int} (h : Lit W u xs) (o : Obj) : Lit (W.alloc o) u xs := h.below (balloc _ _)
theorem Lit.drew {W : World} {u : Value} {xs : List Int} (h : Lit W u xs) : Lit W.drew u xs := h.below (bdrew _)
theorem Lit.new {W : World} {G : Nat} (x : Int) (hG : W.heap.size = G) : Lit (W.alloc (.cells #[.int .i64 x] 3)) (.slice (some ⟨G, 0, none⟩) 1 1) [x] := by
  subst hG
  unfold Lit
  rw [World.size_alloc]
  exact rec_lit W 3 [.int .i64 x]
theorem step_appZ {ops : Array Oper} {o : Oper} {a : Act} {w : World} {K : Act → World → Prop} {Q : Exit → Act → World → Prop} {X : Prop} (hgd : o.guard = none) (s x : Operand)
    (ho : o.op = .call { callee := .builtin .append, args := #[s, x], argTypes := #[22, 22] })
    (w0 : World) (v : Value) (xs : List Int) (hs : a.eval s = v) (hacc : Acc w0 w v xs) (u : Value) (ys : List Int) (hx : a.eval x = u) (hr : Lit w u ys) (hlen : xs.length + ys.length ≤ 100000)
    (h : ∀ v' w', Acc w0 w' v' (xs ++ ys) → (v.ownBlock = none → Below w.heap.size w w') → K (a.put o.dst v') w') : if Region.wanted o (yielded ops a.tmps) = true then Oper.wp Try.prog o a w K Q else X := by
  have hw : Region.wanted o (yielded ops a.tmps) = true := by simp [Region.wanted, hgd]
  rw [if_pos hw]
  obtain ⟨i, hi, hz, hsz, hby⟩ := info_parts int_info
  obtain ⟨h1, h2⟩ := hacc
  refine wp_append_sees s x 22 ho w0.heap.size 3 i (.int .i64 0) 1 8 Try.underlying22 hi hz hsz hby rfl (by omega) v xs.length (viI xs) hs h1 w.heap.size u ys.length (viI ys) hx hr (viI_one ys) (by unfold maxLen; omega) (by omega) h2.size ?_
  intro v' w' g1 g2 g3
  refine h v' w' ⟨?_, bgrowO h2 g2 (fun j hj => (h1.lt j hj).1) h2.size⟩ (fun e => ?_)
  · unfold Acc at *
    rw [viI_append, List.length_append]
    exact g1
  · rw [e] at g2
    exact ⟨g2.os, g2.tape, g2.output, g2.size, fun k hk => g2.block k hk (by simp)⟩
theorem int_size : ∀ w, (sizeOf (Try.prog.elem 22)).run Try.prog w = .ok 1 w := fun w => by kernel_rfl
theorem cutA_zero (A : Option Addr) (c : Nat) : cutA A c 0 1 = A := by
  unfold cutA
  split
  · rfl
  · cases A with
    | none => rfl
    | some a =>
      obtain ⟨b, o, s⟩ := a
      show some (Addr.add ⟨b, o, s⟩ (0 * 1)) = _
      simp [Addr.add]
def insI (l : List Int) (k : Nat) (v : Int) : List Int := l.take k ++ [v] ++ l.drop k
theorem insI_mem {l : List Int} {k : Nat} {v x : Int} : x ∈ insI l k v ↔ x ∈ l ∨ x = v := by
  unfold insI
  rw [List.mem_append, List.mem_append, List.mem_singleton]
  have := List.take_append_drop k l
  constructor
  · rintro ((h | h) | h)
    · exact .inl (List.mem_of_mem_take h)
    · exact .inr h
    · exact .inl (List.mem_of_mem_drop h)
  · rintro (h | h)
    · rw [← this] at h
      rcases List.mem_append.1 h with h | h
      · exact .inl (.inl h)
      · exact .inr h
    · exact .inl (.inr h)
theorem insI_len {l : List Int} {k : Nat} {v : Int} : (insI l k v).length = l.length + 1 := by
  unfold insI
  have := congrArg List.length (List.take_append_drop k l)
  simp only [List.length_append, List.length_cons, List.length_nil] at *
  omega
theorem insI_asc {R : Int → Int → Prop} {l : List Int} {k : Nat} {v : Int} (h : l.Pairwise R) (h1 : ∀ (j : Nat) x, j < k → l[j]? = some x → R x v) (h2 : ∀ (j : Nat) x, k ≤ j → l[j]? = some x → R v x) : (insI l k v).Pairwise R := by
  have h0 := h
  unfold insI
  rw [← List.take_append_drop k l, List.pairwise_append] at h
  obtain ⟨p1, p2, p3⟩ := h
  have q1 : ∀ x ∈ l.take k, R x v := fun x hx => by
    obtain ⟨j, hj⟩ := List.getElem?_of_mem hx
    rw [List.getElem?_take] at hj
    split at hj
    · exact h1 j x (by assumption) hj
    · cases hj
  have q2 : ∀ x ∈ l.drop k, R v x := fun x hx => by
    obtain ⟨j, hj⟩ := List.getElem?_of_mem hx
    rw [List.getElem?_drop] at hj
    exact h2 _ x (by omega) hj
  rw [List.pairwise_append, List.pairwise_append]
  refine ⟨⟨p1, List.pairwise_singleton _ _, fun a ha b hb => ?_⟩, p2, fun a ha b hb => ?_⟩
  · rw [List.mem_singleton] at hb; subst hb; exact q1 a ha
  · rcases List.mem_append.1 ha with ha | ha
    · exact p3 a ha b hb
    · rw [List.mem_singleton] at ha; subst ha; exact q2 b hb
def PutP (l : List Int) (v : Int) (w : World) (e : Ending) (w' : World) : Prop := ∃ u l', e = .returned u ∧ Lit w' u l' ∧ l'.Pairwise (· < ·) ∧ (∀ x, x ∈ l' ↔ x ∈ l ∨ x = v) ∧ l'.length ≤ l.length + 1 ∧ Below w.heap.size w w'
theorem put_done {l : List Int} {k : Nat} {v : Int} {w w' : World} {u : Value} (hk : k ≤ l.length) (ha : l.Pairwise (· < ·)) (h1 : ∀ (j : Nat) x, j < k → l[j]? = some x → x < v) (h2 : ∀ (j : Nat) x, k ≤ j → l[j]? = some x → v < x) (h : Acc w w' u ([] ++ l.take k ++ [v] ++ l.drop k)) : PutP l v w (.returned u) w' := by
  rw [List.nil_append] at h
  exact ⟨u, insI l k v, rfl, Sees.of_own h.1, insI_asc ha h1 h2, fun x => insI_mem, by rw [insI_len]; exact Nat.le_refl _, h.2⟩
set_option maxRecDepth 100000 in
set_option maxHeartbeats 4000000 in
theorem put_any (B : Nat) (u : Value) (l : List Int) (v : Int) (w : World) (hu : SeesI w B u l) (hB : B ≤ w.heap.size) (hn : l.length ≤ 1000) (ha : l.Pairwise (· < ·)) :
    Calls Try.prog 75 #[u, .int .i64 v] w (PutP l v w) := by
  obtain ⟨A, c, rfl, hlc, hc⟩ := hu.mk_
  unfold maxLen at hc
  replace hu := Lib.hid hu
  replace ha := Lib.hid ha
  go_enter Try.func75, Try.ntmps75
  go_wp2_with fail
  go_loop [5] (fun t => ∃ k : Nat, k ≤ l.length ∧ t = .int .i64 k ∧ Hid (∀ (j : Nat) x, j < k → l[j]? = some x → x < v)) (fun t => l.length - (intOf t).toNat)
  case atStart => exact ⟨0, by omega, rfl, fun j x hj => absurd hj (by omega)⟩
  case round =>
    obtain ⟨k, hk, rfl, hlo⟩ := hrel
    by_cases hlt : k < l.length
    · obtain ⟨b, o, rfl, hbB, hds⟩ := SeesI.at_ hu.out (by omega)
      obtain ⟨x, hx⟩ : ∃ x, l[k]? = some x := ⟨_, List.getElem?_eq_getElem hlt⟩
      have c0 := hds k x hx
      have i0 : (k : Int) < (l.length : Int) := by omega
      have i1 : (0 : Int) ≤ (k : Int) := by omega
      replace hx := Lib.hid hx
      clear hds
      by_cases hxv : x < v
      · have hlo2 : Hid (∀ (j : Nat) y, j < k + 1 → l[j]? = some y → y < v) := fun j y hj hy => by
          rcases Nat.lt_or_ge j k with h | h
          · exact hlo.out j y h hy
          · obtain rfl : j = k := by omega
            rw [hx.out] at hy; cases hy; exact hxv
        go_wp2_with fail
        go_round
        case rel => exact ⟨k + 1, by omega, by go_num, hlo2⟩
        case measure => simp [intOf]; omega
      · by_cases hxe : x = v
        · subst hxe
          go_wp2_with fail
          go_returns
          exact ⟨_, l, rfl, hu.out.more hB, ha.out, fun y => ⟨.inl, fun h => h.elim id (fun e => e ▸ List.mem_of_getElem? hx.out)⟩, by omega, Below.refl _ _⟩
        · have hgt : Hid (∀ (j : Nat) y, k ≤ j → l[j]? = some y → v < y) := fun j y hj hy => by
            obtain ⟨h1, e1⟩ := List.getElem?_eq_some_iff.1 hx.out
            obtain ⟨h2, e2⟩ := List.getElem?_eq_some_iff.1 hy
            rcases Nat.lt_or_ge k j with h | h
            · have := List.pairwise_iff_getElem.1 ha.out k j h1 h2 h
              rw [e1, e2] at this; omega
            · obtain rfl : j = k := by omega
              rw [hx.out] at hy; cases hy; omega
          have r1 : ∀ W, (Instr.slice 22 (.slice (some ⟨b, o, none⟩) l.length c) none (some (.int .i64 (k : Int))) none).run Try.prog W = .ok (.slice (some ⟨b, o, none⟩) k c) W := fun W => by
            have := run_cut_to (P := Try.prog) 22 Try.underlying22 1 int_size (some ⟨b, o, none⟩) l.length c .i64 (k : Int) (by omega) (by omega) W
            rw [cutA_zero] at this
            exact this
          have r2 : ∀ W, (Instr.slice 22 (.slice (some ⟨b, o, none⟩) l.length c) (some (.int .i64 (k : Int))) none none).run Try.prog W = .ok (.slice (cutA (some ⟨b, o, none⟩) c k 1) (l.length - k) (c - k)) W := fun W =>
            run_cut_from (P := Try.prog) 22 Try.underlying22 1 int_size (some ⟨b, o, none⟩) l.length c .i64 (k : Int) (by omega) (by omega) W
          have S1 : Hid (∀ W, Below w.heap.size w W → Lit W (.slice (some ⟨b, o, none⟩) k c) (l.take k)) := fun W hW => by
            have := SeesI.cut (a := 0) (b := k) hu.out (by omega) hk
            rw [cutA_zero, List.drop_zero, Nat.sub_zero, Nat.sub_zero] at this
            exact (Sees.below this (hW.mono hB)).more (Nat.le_trans hB hW.size)
          have S2 : Hid (∀ W, Below w.heap.size w W → Lit W (.slice (cutA (some ⟨b, o, none⟩) c k 1) (l.length - k) (c - k)) (l.drop k)) := fun W hW => by
            have := SeesI.cut (a := k) (b := l.length) hu.out hk (Nat.le_refl _)
            rw [List.take_of_length_le (by rw [List.length_drop]; exact Nat.le_refl _)] at this
            exact (Sees.below this (hW.mono hB)).more (Nat.le_trans hB hW.size)
          generalize cutA (some ⟨b, o, none⟩) c k 1 = A2 at *
          have l1 : Hid ((l.take k).length ≤ 1000) := Nat.le_trans (List.length_take_le _ _) (by omega)
          have l2 : Hid ((l.drop k).length ≤ 1000) := by show _ ≤ _; rw [List.length_drop]; omega
          go_upto_region 6 with (fail)
          clear c0
          go_region_held3 (fun W' : World => True) (trivial)
            (first
              | (refine step_appZ (by rfl) (.const (.slice none 0 0)) (.tmp 35) (by rfl) w (.slice none 0 0) [] (by rfl) (Acc.nil (by (repeat (first | exact Below.refl _ _ | (refine bgo ?_ (balloc _ _)) | (refine bgo ?_ (bdrew _)) | (refine bgo ?_ (by assumption)))))) (.slice (some ⟨b, o, none⟩) k c) (l.take k) (by rfl) (S1.out _ (by (repeat (first | exact Below.refl _ _ | (refine bgo ?_ (balloc _ _)) | (refine bgo ?_ (bdrew _)) | (refine bgo ?_ (by assumption)))))) (by have := l1.out; simp only [List.length_nil]; omega) ?_; intro v1 w1 a1 b1; obtain ⟨A1, n1, c1, rfl⟩ := a1.shape; replace b1 := b1 rfl)
              | (refine step_appZ (by rfl) (.tmp 36) (.tmp 38) (by rfl) w (.slice A1 n1 c1) ([] ++ l.take k) (by rfl) ?_ (.slice (some ⟨w1.heap.size, 0, none⟩) 1 1) [v] (by rfl) ?_ ?_ ?_; (· (repeat (first | exact a1 | refine Acc.alloc ?_ _ | refine Acc.drew ?_))); (· (repeat (first | (with_reducible refine Lit.drew ?_) | (with_reducible refine Lit.new _ ?_) | (with_reducible refine Lit.below ?_ b1) | (with_reducible refine Lit.alloc ?_ _) | (with_reducible rfl) | (simp; done)))); (· (have := l1.out; have := l2.out; simp only [List.length_append, List.length_cons, List.length_nil]; omega)); intro v2 w2 a2 b2; obtain ⟨A3, n2, c2, rfl⟩ := a2.shape)
              | (refine step_appZ (by rfl) (.tmp 36) (.tmp 38) (by rfl) w (.slice A1 n1 c1) ([] ++ l.take k) (by rfl) ?_ (.slice (some ⟨w.heap.size, 0, none⟩) 1 1) [v] (by rfl) ?_ ?_ ?_; (· (repeat (first | exact a1 | refine Acc.alloc ?_ _ | refine Acc.drew ?_))); (· (repeat (first | (with_reducible refine Lit.drew ?_) | (with_reducible refine Lit.new _ ?_) | (with_reducible refine Lit.below ?_ b1) | (with_reducible refine Lit.alloc ?_ _) | (with_reducible rfl) | (simp; done)))); (· (have := l1.out; have := l2.out; simp only [List.length_append, List.length_cons, List.length_nil]; omega)); intro v2 w2 a2 b2; obtain ⟨A3, n2, c2, rfl⟩ := a2.shape)
              | (refine step_appZ (by rfl) (.tmp 39) (.tmp 42) (by rfl) w (.slice A3 n2 c2) ([] ++ l.take k ++ [v]) (by rfl) ?_ (.slice A2 (l.length - k) (c - k)) (l.drop k) (by rfl) (S2.out _ a2.2) ?_ ?_; (· (repeat (first | exact a2 | refine Acc.alloc ?_ _ | refine Acc.drew ?_))); (· (have := l1.out; have := l2.out; simp only [List.length_append, List.length_cons, List.length_nil]; omega)); intro v3 w3 a3 b3; obtain ⟨A4, n3, c3, rfl⟩ := a3.shape))
          all_goals
            go_wp2_with fail
            go_returns
            exact put_done hk ha.out hlo.out hgt.out a3
    · have hke : Hid (k = l.length) := by show _ = _; omega
      have hgt : Hid (∀ (j : Nat) y, k ≤ j → l[j]? = some y → v < y) := fun j y hj hy => by
        rw [List.getElem?_eq_none (by have := hke.out; omega)] at hy; cases hy
      have i0 : ¬ (k : Int) < (l.length : Int) := by omega
      have r1 : ∀ W, (Instr.slice 22 (.slice A l.length c) none (some (.int .i64 (k : Int))) none).run Try.prog W = .ok (.slice A k c) W := fun W => by
        have := run_cut_to (P := Try.prog) 22 Try.underlying22 1 int_size A l.length c .i64 (k : Int) (by omega) (by omega) W
        rw [cutA_zero] at this
        exact this
      have r2 : ∀ W, (Instr.slice 22 (.slice A l.length c) (some (.int .i64 (k : Int))) none none).run Try.prog W = .ok (.slice (cutA A c k 1) (l.length - k) (c - k)) W := fun W =>
        run_cut_from (P := Try.prog) 22 Try.underlying22 1 int_size A l.length c .i64 (k : Int) (by omega) (by omega) W
      have S1 : Hid (∀ W, Below w.heap.size w W → Lit W (.slice A k c) (l.take k)) := fun W hW => by
        have := SeesI.cut (a := 0) (b := k) hu.out (by omega) hk
        rw [cutA_zero, List.drop_zero, Nat.sub_zero, Nat.sub_zero] at this
        exact (Sees.below this (hW.mono hB)).more (Nat.le_trans hB hW.size)
      have S2 : Hid (∀ W, Below w.heap.size w W → Lit W (.slice (cutA A c k 1) (l.length - k) (c - k)) (l.drop k)) := fun W hW => by
        have := SeesI.cut (a := k) (b := l.length) hu.out hk (Nat.le_refl _)
        rw [List.take_of_length_le (by rw [List.length_drop]; exact Nat.le_refl _)] at this
        exact (Sees.below this (hW.mono hB)).more (Nat.le_trans hB hW.size)
      generalize cutA A c k 1 = A2 at *
      have l1 : Hid ((l.take k).length ≤ 1000) := Nat.le_trans (List.length_take_le _ _) (by omega)
      have l2 : Hid ((l.drop k).length ≤ 1000) := by show _ ≤ _; rw [List.length_drop]; omega
      go_upto_region 6 with (fail)
      go_region_held3 (fun W' : World => True) (trivial)
        (first
          | (refine step_appZ (by rfl) (.const (.slice none 0 0)) (.tmp 35) (by rfl) w (.slice none 0 0) [] (by rfl) (Acc.nil (by (repeat (first | exact Below.refl _ _ | (refine bgo ?_ (balloc _ _)) | (refine bgo ?_ (bdrew _)) | (refine bgo ?_ (by assumption)))))) (.slice A k c) (l.take k) (by rfl) (S1.out _ (by (repeat (first | exact Below.refl _ _ | (refine bgo ?_ (balloc _ _)) | (refine bgo ?_ (bdrew _)) | (refine bgo ?_ (by assumption)))))) (by have := l1.out; simp only [List.length_nil]; omega) ?_; intro v1 w1 a1 b1; obtain ⟨A1, n1, c1, rfl⟩ := a1.shape; replace b1 := b1 rfl)
          | (refine step_appZ (by rfl) (.tmp 36) (.tmp 38) (by rfl) w (.slice A1 n1 c1) ([] ++ l.take k) (by rfl) ?_ (.slice (some ⟨w1.heap.size, 0, none⟩) 1 1) [v] (by rfl) ?_ ?_ ?_; (· (repeat (first | exact a1 | refine Acc.alloc ?_ _ | refine Acc.drew ?_))); (· (repeat (first | (with_reducible refine Lit.drew ?_) | (with_reducible refine Lit.new _ ?_) | (with_reducible refine Lit.below ?_ b1) | (with_reducible refine Lit.alloc ?_ _) | (with_reducible rfl) | (simp; done)))); (· (have := l1.out; have := l2.out; simp only [List.length_append, List.length_cons, List.length_nil]; omega)); intro v2 w2 a2 b2; obtain ⟨A3, n2, c2, rfl⟩ := a2.shape)
          | (refine step_appZ (by rfl) (.tmp 36) (.tmp 38) (by rfl) w (.slice A1 n1 c1) ([] ++ l.take k) (by rfl) ?_ (.slice (some ⟨w.heap.size, 0, none⟩) 1 1) [v] (by rfl) ?_ ?_ ?_; (· (repeat (first | exact a1 | refine Acc.alloc ?_ _ | refine Acc.drew ?_))); (· (repeat (first | (with_reducible refine Lit.drew ?_) | (with_reducible refine Lit.new _ ?_) | (with_reducible refine Lit.below ?_ b1) | (with_reducible refine Lit.alloc ?_ _) | (with_reducible rfl) | (simp; done)))); (· (have := l1.out; have := l2.out; simp only [List.length_append, List.length_cons, List.length_nil]; omega)); intro v2 w2 a2 b2; obtain ⟨A3, n2, c2, rfl⟩ := a2.shape)
          | (refine step_appZ (by rfl) (.tmp 39) (.tmp 42) (by rfl) w (.slice A3 n2 c2) ([] ++ l.take k ++ [v]) (by rfl) ?_ (.slice A2 (l.length - k) (c - k)) (l.drop k) (by rfl) (S2.out _ a2.2) ?_ ?_; (· (repeat (first | exact a2 | refine Acc.alloc ?_ _ | refine Acc.drew ?_))); (· (have := l1.out; have := l2.out; simp only [List.length_append, List.length_cons, List.length_nil]; omega)); intro v3 w3 a3 b3; obtain ⟨A4, n3, c3, rfl⟩ := a3.shape))
      all_goals
        go_wp2_with fail
        go_returns
        exact put_done hk ha.out hlo.out hgt.out a3
end Go.Proofs.Ytiiaghmdajdbbaa
